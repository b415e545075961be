import Derived.Test.YtlgnfcaolejgeaaGreatMH
import Derived.Test.YtlgnfcaolejgeaaGreatMF
import Derived.Test.YtlgnfcaolejgeaaGreatMG
import Derived.Test.YtlgnfcaolejgeaaGreatMD
import Derived.Test.YtlgnfcaolejgeaaGreatME
set_option linter.all false
set_option maxRecDepth 100000
namespace Go.Proofs.YtlgnfcaolejgeaaGreat
open Go Go.bA
def pN {d:U}{b:Nat}: ∀ {h:List (a6.T b)}{a:List R},az (bt d b) h a->flat a=a
 | [],[],_=>rfl
 | _:: _,k::a,c=>by
  obtain⟨o,p,r,rfl,_⟩:=bt.ptr c.1;have:=pN c.2;simp only[flat,a5l]at this|-;rw[this];rfl
variable{n b3:R}{f t e7:U}{e i v M c0 j0:Nat}
def bt.shape {p:a6.T e} (r:bt f e p n): ∃a k b d c,n= .ptr a 0/\f a=some (.cells [.J k b,.J d c])/\k.length+d.length=a6.len p/\(e=0->d= [])/\(e≠0->k= []/\d≠ []):=by
 cases e with
 |zero=>obtain⟨a,x,b,c,rfl,o,h⟩:=r;exact⟨a,x,b,[],c,rfl,o,by rw[h.len];rfl,λ_=>rfl,λe=>absurd rfl e⟩
 |succ e=>obtain⟨a,y,b,c,rfl,o,h,z,_⟩:=r;refine⟨a,[],c,y,b,rfl,o,by rw[h.len];simp[a6.len],λe=>(by cases e),λ_=>⟨rfl,?_⟩⟩;rintro rfl;exact z (az.xM h)
variable{g A e1:List R}
theorem a2s {a:List (a6.T i)} (b:az (bt f i) a g) (o:g≠ []) (p:A.take e=g): ∀c d h k,A≠ [.J c d,.J h k]:=by
 rintro c d h k rfl;cases g with
 |nil=>exact o rfl
 |cons r g=>
  cases a with
  |nil=>exact b.elim
  |cons x a=>
   obtain⟨y,_,_,rfl,_⟩:=bt.ptr b.1;cases e with
   |zero=>cases p
   |succ e=>grind
theorem ar.G9 (b:ar f t 1 g n): ∃a,View t n a (.J g .any)/\f.sub a:=by grind[View.dV,ky,List.take_of_length_le]
theorem bt.rows {a:U}{b:a6.T 0}{c:Nat}{d h:List R}{k o:Own} (p:bt a 0 b (.ptr c 0)) (r:a c=some (.cells [.J d k,.J h o])):az isRow (a6.rows b) d:=by obtain⟨_,_,_,_,x,y,z⟩:=p;simp_all
theorem bt.kids {b:U}{a:Nat}{c:a6.T (a+1)}{d:Nat}{k h:List R}{o p:Own} (r:bt b (a+1) c (.ptr d 0)) (x:b d=some (.cells [.J k o,.J h p])):az (bt b a) (a6.kids c) h:=by obtain⟨_,_,_,_,y,z,a,_⟩:=r;simp_all
variable{N e5 h5:Own}
def ri (a:aN 1 g) (b:flat g=g):bM f 1 (.J g N)=some (g.length,g):=by have:=(jR.J (s:=f) (o:=N) a).src f U.a1;rwa[b]at this
def vs (k:ar t f 1 g (.al e v M 1)) (a:g[i]? =some n):cR 1 (.al e v M 1) (.v (.int .i64 (i:Int)))=some (.ptr e i)/\ ∃b,f.read e=some b/\p2 false 1 i (some b)=some n:=by have y:=(a4P.1 a).1;obtain⟨z,C,D,b,c,E,o,p,d,r,F,G⟩:=k.al (by rintro rfl;simp at a);simp only[R.al.injEq,and_true]at c;obtain⟨rfl,rfl,rfl⟩:=c;rw[a5t]at p d r;have h:=iZ (e:=1) (i:=e) (v:=v) (M:=M) (e2:= .i64) (b1:=(i:Int)) a9p a9p;rw[a5g,a5t]at h;refine⟨h,b,U.af o,?_⟩;rw[<-d,a5K a9p]at a;obtain⟨x,rfl⟩:=a4P.1 a;rw[Bw a9p,a5c x];rfl
theorem a2t {a:List (a6.T i)}{b:a6.T i} (p:e<a.length) (d:2<=a.length) (o: ¬2<=a6.len b):
  ∃h k,(a.set e b)[e - 1]? =some h/\(a.set e b)[e - 1+1]? =some k/\a6.lq a e b=(a.set e b).take (e - 1)++a6.kD h k++(a.set e b).drop (e - 1+2):=by
 rw[a6.lq,if_neg o];by_cases c:e=0
 .subst c;refine⟨b,a[1],a8S a9p,by simp[a4H d],?_⟩;rw[if_pos rfl,a4H d,a9h a9p];rfl
 .refine⟨a[e - 1],b,by grind,by grind,?_⟩;rw[if_neg c,a4H a9p,a9h a9p,List.take_set_of_le a9p];simp[c]
set_option maxHeartbeats 1000000 in
theorem a2u (k9:1<=e) (Q:e<=8) (r:List Int) (l0:Own) (X:bN e r): ∀(a:Nat) (G:a6.T a) (D:R) (p:U),bt p a G D->GT e a G->
  AC Tryz.prog 95 [D,.J (ad r) l0] p λA c=>p.sub c/\bt c a (a6.cM bx r a G) A:=by
 have b47:=X.len;intro a
 induction a with
 |zero=>intro G D p u l;exact a2r r l0 G D p u l Q
 |succ a ih=>
 intro G D p u l;obtain⟨d,rfl⟩:=a6.gv G;have m:=l.kids k9 Q X;have l1:=Ek d D r l0 p u a9p λb L=>by
  obtain⟨v,_,a86,a88⟩:=m.hd b L;have:=v.dH;have:=a88.len;exact⟨a9p,a86,a9p⟩
 obtain⟨b48,Y,b49,b50,rfl,Z,k,_,_⟩:=u;rw[a6.fg]at k;have b51:=k.len;obtain⟨a89,b52⟩:=m.two;obtain⟨b,L⟩:=m.at_;have j9:a6.cM bx r (a+1) (a6.node d)=a6.node (a6.lq d (a6.cV bx r (d.map (a6.cS a))) (a6.cM bx r a b)):=by simp only[a6.cM,a6.fg];rw[L]
 obtain⟨_,_,a90,a92⟩:=a6.pw (gy k9 Q) X (a+1) (a6.node d) l.wf l.dZ l.ok;rw[j9,a6.dF,a6.dF]at a90;rw[j9,a6.dF]at a92;rw[j9];rw[m.El]at l1;clear j9;generalize a6.cV bx r (d.map (a6.cS a))=o at*;have a18:=(a4P.1 L).1;obtain⟨v,a94,_,_⟩:=m.hd b (a4O L);obtain⟨_,_,a95,a96⟩:=a6.pw (gy k9 Q) X a b v.wf v.dZ v.ok;have a19:=λD p u=>ih b D p u v;have a97: ∀b∈d,a6.len b<=4:=λb L=>(a6.hb.1 (m.hd b L).2.1).2.1;have a98:=(a6.hb.1 a94).1;have l2:=a2t (b:=a6.cM bx r a b) a18 a89;have l3:2<=a6.len (a6.cM bx r a b)->a6.lq d o (a6.cM bx r a b)=d.set o (a6.cM bx r a b):=λa=>by rw[a6.lq,if_pos a]
 clear m l;generalize a6.lq d o (a6.cM bx r a b)=l4 at*;generalize a6.cM bx r a b=B at*;refine AC.view (s:=λA c=> ∃h x z C P,A= .ptr h 0/\p h=none/\p x=none/\h≠x/\c h=some (.cells [.J [] .nil,.al x z C 1])/\(∃E,c x=some (.cells E)/\z<=E.length/\E.take z=P)/\az (bt c a) l4 P/\p.sub c) ?_ ?_;rotate_left
 .rintro A c ⟨h,x,z,C,P,rfl,F,a99,b00,k0,⟨E,g,b53,b01⟩,b02,b03⟩;have b54:P≠ []:=by rintro rfl;grind[az.xM]
  refine⟨_,_,View.obj (A:= [.J [] .nil]) (e1:= []) k0 g a9p b00,?_,h,_,.any,.nil,rfl,U.ah _ _ _,?_,?_,by rw[a6.fg];omega⟩
  .intro n a27 H;have b04:n≠h:=by rintro rfl;rw[F]at H;cases H
   have a29:n≠x:=by rintro rfl;rw[a99]at H;cases H
   rw[U.an _ _ b04,U.an _ _ a29];exact b03 _ _ H
  .rw[a6.fg,ky,b01];refine b02.mono λ_ _=>bt.vr λI b05 b06 b07 a27 K=> ?_;have k1:I≠h:=by rintro rfl;rw[k0]at K;simp at K
   have l5:I≠x:=by rintro rfl;grind[a2s,bp.cells.inj,Option.some.inj]
   rw[U.an _ _ k1,U.an _ _ l5];exact K
  grind[a6.fg]
 have b08:=U.af Z;have b55: ¬(d.length:Int)=0:=a9p;have l6:=bt.c k;refine aO hm Bl ?_;refine cl l1 ?_;rintro _ l7 ⟨M,rfl⟩;have b09:=rd M Z;have l8:=k.mono λ_ _=>bt.mono M;refine u2 (ri l6 (pN k)) λb56 b10 N=> ?_;obtain⟨S,z,C,b57,rfl,a29,a30,b11,b12,b13,b58,b59⟩:=ar.al N (by grind);obtain rfl:z=d.length:=a9p;have a34:=N.1;have b14:=rd (U.aq M a34) Z;obtain⟨_,a36,l9⟩:=l8.get L;obtain⟨b15,_,_,rfl,_⟩:=l9.ptr;refine cl (a19 _ b10 (bt.mono a34 l9)) ?_;rintro A k2 ⟨n0,n1⟩;obtain⟨i,_,_,rfl,_⟩:=n1.ptr;obtain⟨n2,a38,a42,-,y⟩:=ar.put (i:=o) (a:= .ptr i 0) (by rw[pN l8];exact N.mono n0:ar l7 k2 1 (flat Y) (.al S d.length C 1)) a9p l6 a36 rfl;have b16:=(vs (N.mono n0) a36).1;have b17:=U.aJ a38;rw[a5t]at y a42;have aI:n2.take d.length=Y:=by have I:=n0 _ _ a30;simp_all
 obtain⟨T,n3⟩: ∃T,k2.set S (.cells (putAt n2 o [.ptr i 0]))=T:=⟨_,rfl⟩;have a43:zH k2 T:=λI b05 b06 b07 a27 K=>by
  have l5:I≠S:=by grind
  rw[<-n3,U.an _ _ l5];exact K
 change ar l7 (k2.set S (.cells (putAt n2 o [.ptr i 0]))) 1 _ _ at y;rw[n3]at y;have V:=az.set o (l8.mono λ_ _ k0=>bt.mono y.1 k0) (bt.vr a43 n1);rw[pN V]at y;have b18:=V.len;rw[a7k,a7k]at b18;have a47:(Y.set o (.ptr i 0))[o]? =some (.ptr i 0):=a8S a9p;have a48:(d.set o B)[o]? =some B:=by simp[a18]
 clear aI a43 n1 k l6 b08 b09 b14 a30 b11 b12 b13 N;generalize b19:d.set o B=a52 at*;generalize Y.set o (.ptr i 0)=a56 at*;have b60:a52.length=d.length:=by rw[<-b19,a7k]
 have a57:=U.aq M y.1;have n4: ∀b∈a52,a6.len b<=4:=λb L=>by
  grind
 obtain⟨b61,b20,b21⟩:=(vs y a47).2;obtain⟨b22,cg,b23,a61,n5,a62,a63,b24,_,_⟩:=(V.get a48|>.elim λD a=>by simp_all:bt T a B (.ptr i 0)).shape;obtain rfl:i=b22:=by simpa using a62
 clear a62 a19 ih l1;have b25:=U.af a63;have a65: ∀(n9 c:U) (P:List R) (q:R) (h:Nat),p.sub n9->ar n9 c 1 P q->az (bt c a) l4 P->c h=none->
   ∃k3 x z C a68,R.ptr h 0= .ptr k3 0/\p k3=none/\p x=none/\k3≠x/\(c.set h (.cells [.J [] .nil,q])) k3=some (.cells [.J [] .nil,.al x z C 1])/\(∃E,(c.set h (.cells [.J [] .nil,q])) x=some (.cells E)/\z<=E.length/\E.take z=a68)/\az (bt (c.set h (.cells [.J [] .nil,q])) a) l4 a68/\p.sub (c.set h (.cells [.J [] .nil,q])):=λn9 c P q h a00 a01 k F=>by
  have a02:=U.ae (Y:= .cells [.J [] .nil,q]) U.a1 F;obtain⟨x,z,C,E,rfl,a03,a69,b62,b26,b63,b64,_⟩:=a01.al (λs=>by grind[az.xM]);exact⟨h,x,z,C,P,rfl,U.bF (U.aq a00 a01.1) F,U.bF a00 a03,(λs=>by rw[s,a69]at F;cases F),U.ah _ _ _,⟨E,a02 _ _ a69,a9p,by rwa[a5t]at b26⟩,k.mono λ_ _ a=>bt.mono a02 a,U.aq a00 (U.aq a01.1 a02)⟩
 by_cases c2:2<=a6.len B
 .have aI:(1:Int)<(cg.length:Int)+(a61.length:Int):=a9p;obtain rfl:=l3 c2;clear l3 l2;have b27:=fK y;refine aa ?_;refine bq λh F=> ?_;exact⟨_,U.a1,a65 l7 T a56 _ h M y V F⟩
 obtain⟨a71,a73,a04,k4,rfl⟩:=l2 c2;have aI: ¬(1:Int)<(cg.length:Int)+(a61.length:Int):=a9p;clear l3 c2 l2;refine aa ?_;clear aI a63 b24 b25 b21 b20 a47 a48 b16 b17 a38 a42;refine o5 [0,7,8] (λ_:Unit=> [(9,.v (.int .i64 ((o - 1:Nat):Int)))]) (λ_ c=>c=T) (λb=> ?_) (λb=> ?_) ?_
 .have b:=of_decide_eq_true b;have s:((o - 1:Nat):Int)=0:=a9p;exact aU
 .have b:=of_decide_eq_false b;have s:(o:Int) - 1=((o - 1:Nat):Int):=a9p;exact aU
 clear n3;rintro _ T rfl b28;generalize o - 1=j at*;have b65:=(a4P.1 k4).1;have b66:=n4 _ (a4O a04);have b67:=n4 _ (a4O k4);obtain⟨_,b29,a05⟩:=V.get a04;obtain⟨_,b30,a06⟩:=V.get k4;obtain⟨b68,b69,b70,b71,b72,rfl,w,b73,_,_⟩:=a05.shape;obtain⟨x,b74,b75,cb,b76,rfl,g,b77,_,_⟩:=a06.shape;obtain⟨b31,b78,b79,b80,b81,s,b32,_,b33,b34⟩:=(bt.mono y.1 l9).shape;obtain rfl:b15=b31:=by simpa using s
 obtain⟨b82,b83,b35,b84⟩:=vs y b29;obtain⟨a74,b85,a07,b86⟩:=vs y b30;have a74:cR 1 (.al S d.length C 1) (.v (.int .i64 ((j:Int)+1)))=some (.ptr S (j+1)):=a74;have b87:=U.af b32;have b88:=rd a57 Z;rw[b35]at a07;obtain rfl:=a4G a07;clear s a07 n4 a95 a96 a97 a98 a04 k4;refine aa ?_;refine o5 [8,9] (λn:List R×Own=> [(12,.J n.1 n.2)]) (λn c=>T.sub c/\az (bt c a) (a6.kD a71 a73) n.1) (λdr=> ?_) (λdr=> ?_) ?_
 .have dr:=of_decide_eq_true dr;cases a with
  |succ a=>exact absurd (a4N a9p) (b34 a9p).2
  |zero=>have k:=a05.rows w;have W:=a06.rows g;have b36:=k.len;have b37:=W.len;have a08:=U.af w;have a09:=U.af g;refine u2 (ri (iK k) (ni k)) λa5 b38 t=> ?_;have a08:=rd t.1 w;have a09:=rd t.1 g;refine qB t (ri (iK W) (ni W)) λdw b39 a10=> ?_;obtain⟨a11,a13,k5⟩:=ar.G9 a10;refine cl (AC.nm (g:= []) a13 (Ee _ _ .any a11 (k.append W) (by rw[a4J];omega))) ?_;rintro _ a14 ⟨a15,k6,k7,rfl,f⟩;refine aa ?_;exact⟨(k6,k7),⟨U.aq k5 a15,f⟩,rfl⟩
 .have dr:=of_decide_eq_false dr;cases a with
  |zero=>exact absurd (by rw[b33 rfl];rfl) dr
  |succ a=>have k:=a05.kids w;have W:=a06.kids g;have b36:=k.len;have b37:=W.len;have a08:=U.af w;have a09:=U.af g;refine u2 (ri (bt.c k) (pN k)) λa5 b38 t=> ?_;have a08:=rd t.1 w;have a09:=rd t.1 g;refine qB t (ri (bt.c W) (pN W)) λdw b39 a10=> ?_;obtain⟨a11,a13,k5⟩:=ar.G9 a10;refine cl (AC.nm (g:= []) a13 (xY T _ _ .any a11 (k.append W) (by rw[a4J];omega) k5)) ?_;rintro _ a14 ⟨a15,k6,k7,rfl,f⟩;refine aa ?_;exact⟨(k6,k7),⟨U.aq k5 a15,f⟩,rfl⟩
 rintro⟨k6,k7⟩ a14 ⟨a16,f⟩ b28
 dsimp only at f|-
 have b89:=f.len;have b90:(a6.kD a71 a73).length<=4:=by grind
 have a81:=y.mono a16;have b40:=V.len;have b23:=hP (e:=1) (M:=S) (c0:=d.length) (i:=C) (v:=j) (e2:= .i64) a9p;obtain⟨b91,b92,b41,_⟩:=(a81.first (i:=j) a9p).src;obtain⟨_,_,_,b93,k1,_,b42,b94,b43,_,_,_⟩:=a81.al (by rintro rfl;simp at b40;omega);simp only[R.al.injEq,and_true]at k1;obtain⟨rfl,rfl,rfl⟩:=k1;refine u2 b41 (λb95 b96 b44=> ?_) (x:=by rw[a4L];omega);refine qB b44 (ri (bt.c f) (pN f)) (λb97 b45 a83=> ?_) (y:=by rw[a4L];omega);obtain⟨a03,n5,_,k8⟩:=ov (i:=1) (j0:=S) (M:=d.length) (c0:=C) (e:=j+2) (e2:= .i64) a9p a9p;have k8:=k8 b45 _ a56 (a83.1 _ _ b42) a9p b43;rw[a5t]at k8;have n5:c7 1 (.al S d.length C 1) (some (.v (.int .i64 ((j:Int)+2)))) none none=some a03:=n5;refine qB a83 k8 (λb98 b46 O=> ?_) (x:=by rw[a4V];omega) (y:=by grind);have b27:=fK O;have a84:=λ{G:a6.T a}{D:R}=>bt.mono (t:=G) (a:=D) (U.aq a16 O.1);refine aa ?_;refine bq λh F=> ?_;rw[a5t]at O;exact⟨_,U.a1,a65 a14 b46 _ _ h (U.aq a57 a16) O ((((V.take j).mono λ_ _ a=>a84 a).append (f.mono λ_ _ a=>bt.mono O.1 a)).append ((V.drop (j+2)).mono λ_ _ a=>a84 a)) F⟩
variable{O:List (List Int)}
def zI:(dz 0 (a6.leaf O)).rows.map Prod.fst=O:=by rw[Zl];show(O.map λa=>(a,true)).map Prod.fst=O;rw[a6J];exact List.map_id' O
def Ga:(dz 0 (a6.leaf O)).kind=2:=rfl
def zJ {a:a6.T (e+1)}: ¬(dz (e+1) a).kind=2:=by show¬(3:UInt8)=2;decide
def Gb (c:1<=i) (d:i<=8) {a:List (a6.T e)} (h:eZ i (e+1) (a6.node a)) (b:List Int):hz b (dz (e+1) (a6.node a))=a6.cV bx b (a.map (a6.cS e)):=by unfold hz;rw[y6];congr 1;show(a.map (bX e)).map (·.key)= _;rw[a6J];exact a6p λk o=>Zo c d (h.hd k o).1
def Gc {a:List (a6.T e)}:(dz (e+1) (a6.node a)).kids[i]? =a[i]?.map (bX e):=by rw[y6];show(a.map (bX e))[i]? = _;rw[a5j]
variable{q b6:List Int}
theorem Gd (r:1<=i) (x:i<=8) {a:List (a6.T e)} (c:GT i (e+1) (a6.node a)) (y:bN i q) {b:a6.T e} (d:a[a6.cV bx q (a.map (a6.cS e))]? =some b):q∈a6.bc (e+1) (a6.node a)↔q∈a6.bc e b:=by obtain⟨h,D,z,E⟩:=c.wf;rw[a6.dF]at h;have F: ∀b∈a,a6.WF e b:=z;have k:=c.dZ;have o:=c.ok;rw[a6.fN]at k o|-;obtain⟨G,p,L,P⟩:=a6.uD (gy r x) y (a:=a) (by intro C;subst C;simp at h) (λb d=>by grind[a6.hb]) k o;rw[d]at p;obtain rfl:=a4G p;have S:=a6.qR d;grind[a6.cV,bx,a6.cS,sN]
theorem Ge {D:Nat} (p:1<=D) (r:D<=8) {c:List Int} (z:bN D c): ∀(a:Nat) (y:a6.T a) (C:ag) (F:Nat),GT D a y->gA C a y->a<F->c∉a6.bc a y->Laid C a (a6.eO bx c a y) (gw D c F C (bX a y))
 |0,y,C,F+1,h,G,_,f=>by
  obtain⟨L,rfl⟩:=a6.hZ y;obtain⟨s,t,_⟩:=h.wf;rw[a6.hy]at s t;have S:=h.ok;have g:(dz 0 (a6.leaf L)).rows.map Prod.fst=L:=zI;rw[gw,qU p r h.jV G];simp only;rw[if_pos Ga,g,yd (O:=L) p r h.dZ S z,decide_eq_false (p:=c∈L) f,if_neg a9t,Zr (O:=L) p r h.dZ S z];exact Et p r C (a6.dQ bx L c) (by rw[a6.ou];omega) (by rw[a6.ou];omega) λE k=>by
   rcases a6.sI.1 k with rfl|k
   .exact z
   .exact S E k
 |a+1,y,C,F+1,h,G,H,f=>by
  obtain⟨b,rfl⟩:=a6.gv y;have i:=h.kids p r z;obtain⟨d,P⟩:=i.at_;have j:=a4O P;have l:c∉a6.bc a d:=λx=>f ((Gd p r h z P).2 x);obtain⟨I,K⟩:=i.two;have T:=(i.hd d j).1;obtain⟨u,M,N,O⟩:=a6.qS (gy p r) z a d T.wf T.dZ T.ok l;have ih:=Ge p r z a d C F T (G.2 d j) a9p l;rw[gw,qU p r h.jV G];simp only;rw[if_neg zJ,Gb p r h.jV,Gc,P];simp only[a5M];have m:a6.eO bx c (a+1) (a6.node b)=(a6.chunks (b.take (a6.cV bx c (b.map (a6.cS a)))++a6.eO bx c a d++b.drop (a6.cV bx c (b.map (a6.cS a))+1))).map a6.node:=by simp only[a6.eO,a6.fg];rw[P]
  rw[m];clear m;have Q:=(a4P.1 P).1;have X:=a6.qR P;generalize a6.cV bx c (b.map (a6.cS a))=o at*;generalize gw D c F C (bX a d)=E at*;obtain⟨Y,v⟩:=E;obtain⟨n,V,q⟩:=ih;simp only at n V q;subst n;simp only;have g:(dz (a+1) (a6.node b)).kids.take o++((a6.eO bx c a d).map (bX a)++(dz (a+1) (a6.node b)).kids.drop (o+1))=(b.take o++a6.eO bx c a d++b.drop (o+1)).map (bX a):=by rw[y6];show(b.map (bX a)).take o++(_++(b.map (bX a)).drop (o+1))= _;simp
  rw[g];have w: ∀E∈(b.take o++a6.eO bx c a d++b.drop (o+1)).flatMap (a6.bc a),bN D E:=λE k=>by
   rw[a5D,a5D,u,a5a,a5a]at k;have S:=h.ok;rw[a6.fN]at S;rcases k with (k|k)|k;grind
   .rcases a6.sI.1 k with rfl|k
    .exact z
    .exact T.ok E k
   grind
  have A:((b.take o++a6.eO bx c a d++b.drop (o+1)).flatMap (a6.bc a)).length=(a6.bc (a+1) (a6.node b)).length+1:=by grind[a6.fN,List.length_append,a6.ou]
  have Z:=h.dH;have j9: ∀d∈b,a6.WF a d:=h.wf.2.2.1;have:=ya p r v (b.take o++a6.eO bx c a d++b.drop (o+1)) (by grind) (by grind) (λW x=>by
   grind) w (by rw[A];omega) (λk0 e B W x=>by
   simp only[a5a]at x;rcases x with (x|x)|x
   .exact(G.2 W (a4Z x)).mono (V.trans e)
   .exact(q (e.zero B) W x).mono e
   .exact(G.2 W (a5n x)).mono (V.trans e))
  exact⟨this.ok,V.trans this.le,this.ins⟩
def hG:eG->ay
 |none=>aA
 |some ⟨a,b⟩=>bX a b
def mr (a:ag):eG->Prop
 |none=>True
 |some ⟨b,c⟩=>gA a b c
def mr.mono {a b:ag} (c:a.le b) {t:eG} (d:mr a t):mr b t:=by
 match t with
 |none=>trivial
 |some ⟨_,_⟩=>exact gA.mono c d
structure pO (a:ag) (t:eG) (r:Except Int ay×ag):Prop where
 ok:r.1= .ok (hG t)
 le:a.le r.2
 ins:r.2.one=false->mr r.2 t
variable{H:ag}
theorem a2v (F:1<=i) (G:i<=8) {r:ag}{a:List (a6.T e)} (L:1<=a.length) (P:a.length<=2) (k:Laid r e a (.ok (a.map (bX e)),H)) (S: ∀b∈a,a6.WF e b) (T: ∀o∈a.flatMap (a6.bc e),bN i o) (V:(a.flatMap (a6.bc e)).length<=1048576):
  pO r (px a) (ia i ((a.map (bX e)).length+1) H (a.map (bX e))):=by
 match a,L,P with
 | [b],_,_=>
  have p:ia i (([b].map (bX e)).length+1) H ([b].map (bX e))=(.ok (bX e b),H):=by rw[ia];rfl
  rw[p];exact⟨rfl,k.le,λc=>k.ins c b a9q⟩
 | [d,h],_,_=>
  have x:=ya F G H [d,h] a9q a9q S T V (λg y c W f=>(k.ins (y.zero c) W f).mono y);rw[a6.ps a9q a9q]at x;rw[ia,if_pos a9q];generalize jh H i ([d,h].map (bX e))=o at*;obtain⟨j,z⟩:=o;obtain⟨C,D,E⟩:=x;simp only at C D E;subst C;simp only;have p:ia i (([d,h].map (bX e)).length) z (([[d,h]].map a6.node).map (bX (e+1)))=(.ok (bX (e+1) (a6.node [d,h])),z):=by grind[ia]
  rw[p];exact⟨rfl,k.le.trans D,λc=>E c _ a9q⟩
variable{b7:eG}
def a2w (c:1<=e) (d:e<=8) (h:bN e q) (D:iM e b7) (E:mr H b7) (F:q∉ez b7):pO H (kJ b7 q) (iI e q H (hG b7)):=by
 match b7 with
 |none=>have G:=uE c d (O:= [q]) a9q a9q (by simpa using h);unfold iI;show pO H _ (if aA=aA then _ else _);rw[if_pos rfl,oz G.oy];exact⟨rfl,lu _ _,λL=>qT L⟩
 |some ⟨a,b7⟩=>
  have b:GT e a b7:=D;have o:q∉a6.bc a b7:=F;have y:=uF c d b.jV;have g:=eZ.high a b7 b.jV;have i:=y.size;have j:=b.dH;have P:=Ge c d h a b7 H ((bX a b7).size.toNat+1) b E a9p o;obtain⟨z,S,T,V⟩:=a6.qS (gy c d) h a b7 b.wf b.dZ b.ok o;have p:kJ (some ⟨a,b7⟩) q=px (a6.eO bx q a b7):=by simp only[kJ];rw[if_neg o]
  rw[p];unfold iI;show pO H _ (if bX a b7=aA then _ else(match gw e q ((bX a b7).size.toNat+1) H (bX a b7)with|(.error p,r)=>(.error p,r)|(.ok bI,r)=>ia e (bI.length+1) r bI));rw[if_neg y.ne];generalize gw e q ((bX a b7).size.toNat+1) H (bX a b7)=x at*;obtain⟨l,m⟩:=x;obtain⟨C,W,f⟩:=P;simp only at C;subst C;simp only;refine a2v c d T V ⟨rfl,W,f⟩ S (λx k=> ?_) (by rw[z,a6.ou];omega);rw[z]at k;rcases a6.sI.1 k with rfl|k
  .exact h
  .exact b.ok x k
theorem a2x (y:1<=e) (z:e<=8) (d:bN e q) (P:iM e b7) (S:(ez b7).length<1000):iM e (kJ b7 q)/\(ez (kJ b7 q)).length<=(ez b7).length+1:=by
 match b7 with
 |none=>
  refine⟨⟨⟨?_,?_,trivial,λa=>by omega⟩,?_,?_,?_⟩,?_⟩
  .simp[a6.hy]
  .simp[a6.hy]
  .rw[a6.kC];simp
  .rw[a6.kC];simpa using d
  .rw[a6.kC];simp
  .show(a6.bc 0 (a6.leaf [q])).length<= _;rw[a6.kC];simp
 |some ⟨a,b7⟩=>
  have c:GT e a b7:=P;have W:(a6.bc a b7).length<1000:=S;simp only[kJ];by_cases o:q∈a6.bc a b7;simp_all;rw[if_neg o];obtain⟨h,k,T,V⟩:=a6.qS (gy y z) d a b7 c.wf c.dZ c.ok o;have C:=a6.Yu (gy y z) c.dZ c.ok d o;have D: ∀p∈a6.dQ bx (a6.bc a b7) q,bN e p:=λp r=>by
   rcases a6.sI.1 r with rfl|r
   .exact d
   .exact c.ok p r
  have f:=a6.ou (lt:=bx) (h9:=a6.bc a b7) (h2:=q);generalize a6.dQ bx (a6.bc a b7) q=E at*
  match F:a6.eO bx q a b7,T,V with
  | [x],_,_=>
   rw[F]at h k;have b:a6.bc a x=E:=by rw[<-h];simp
   refine⟨⟨a6.jQ.of (k x a9q),by rw[b];exact C,by rw[b];exact D,by rw[b];omega⟩,?_⟩;show(a6.bc a x).length<=(a6.bc a b7).length+1;rw[b];omega
  | [G,L],_,_=>
   rw[F]at h k;have b:a6.bc (a+1) (a6.node [G,L])=E:=by rw[a6.fN,h]
   refine⟨⟨⟨by rw[a6.dF];simp,by rw[a6.dF];simp,k,λ_=>by rw[a6.dF];simp⟩,by rw[b];exact C,by rw[b];exact D,by rw[b];omega⟩,?_⟩;show(a6.bc (a+1) (a6.node [G,L])).length<=(a6.bc a b7).length+1;rw[b];omega
def eH:(a:Nat)->a6.T a->ib
 |0,b=>⟨true,a6.rows b,[]⟩
 |a+1,b=>⟨false,[],(a6.kids b).map (bX a)⟩
def oL (b:ag):(a:Nat)->a6.T a->Prop
 |0,_=>True
 |a+1,c=> ∀d∈a6.kids c,gA b a d
def oL.mono {b c:ag} (h:b.le c): ∀ {a:Nat}{d:a6.T a},oL b a d->oL c a d
 |0,_,_=>trivial
 | _+1,_,a=>λk o=>gA.mono h (a k o)
def gA.p: ∀ {a:Nat}{b:a6.T a},gA H a b->oL H a b
 |0,_,_=>trivial
 | _+1,_,a=>a.2
def a2y: ∀ {b:Nat}{a:a6.T b},(eH b a).rows.length+(eH b a).kids.length=a6.len a
 |0,a=>rfl
 |b+1,a=>by show 0+((a6.kids a).map (bX b)).length= _;rw[a4T,a5e];rfl
def Gf: ∀ {b:Nat}{a:a6.T b},fO (dz b a)=eH b a
 |0,a=>by
  obtain⟨c,rfl⟩:=a6.hZ a;unfold fO;rw[zI];rfl
 |b+1,a=>rfl
def zK: ∀ {h:Nat}{t:a6.T h},mg H e (eH h t).leaf (eH h t).rows (eH h t).kids=du H e (dz h t)
 |0,t=>rfl
 |h+1,t=>rfl
theorem Gg (C:1<=e) (D:e<=8) (k:ag): ∀ {c:Nat} (a b:a6.T c),a6.lp c a->a6.lp c b->2<=a6.len a+a6.len b->a6.len a+a6.len b<=5->(∀d∈a6.bc c a,bN e d)->(∀d∈a6.bc c b,bN e d)->
  (a6.bc c a).length+(a6.bc c b).length<=1048576->(∀h,k.le h->h.one=false->oL h c a/\oL h c b)->Laid k c (a6.kD a b) (kF k e (eH c a) (eH c b))
 |0,a,b,_,_,p,r,x,y,_,_=>by
  obtain⟨a,rfl⟩:=a6.hZ a;obtain⟨b,rfl⟩:=a6.hZ b;rw[a6.hy,a6.hy]at p r;exact Et C D k (a++b) (by rw[a4J];omega) (by rw[a4J];omega) λd E=>(a5a.1 E).elim (x d) (y d)
 |c+1,a,b,bP,cv,p,r,x,y,F,G=>by
  obtain⟨a,rfl⟩:=a6.gv a;obtain⟨b,rfl⟩:=a6.gv b;rw[a6.dF,a6.dF]at p r;rw[a6.fN]at x y F;rw[a6.fN]at F;have:=ya C D k (a++b) (by rw[a4J];omega) (by rw[a4J];omega) (λo z=>(a5a.1 z).elim (bP o) (cv o)) (λd E=>by
   grind) (by simp_all) (λh L P o z=>(a5a.1 z).elim ((G h L P).1 o) ((G h L P).2 o))
  rw[a5N]at this;exact this
theorem a2z (C:1<=i) (D:i<=8) (o:ag) {d:List (a6.T e)}{c:a6.T e} (m:v<d.length) (B:2<=d.length) (z: ∀b∈d,eZ i e b/\a6.WF e b/\gA o e b) (H:1<=a6.len c) (n:a6.len c<=4) (V:a6.lp e c)
  (W: ∀E∈a6.bc e c,bN i E) (q: ∀b∈d,(a6.bc e b).length+(a6.bc e c).length<=1048576) (f: ∀r,o.le r->r.one=false->oL r e c):Laid o e (a6.lq d v c) (jT o i (d.map (bX e)) v (eH e c)):=by
 unfold jT a6.lq;rw[a2y];have s:(a6.bc e c).length<=1048576:=by have:=q _ (a5m m);omega
 by_cases F:2<=a6.len c
 .rw[if_pos F,if_pos F,zK];have t:a6.WF e c:=a6.hb.2 ⟨F,n,V⟩;have u:=(nq C D e c (Es t W s)).1;rw[oz u.oy];simp only;refine⟨?_,lu _ _,λk b a=> ?_⟩
  .rw[<-sO,List.map_set]
  .rcases a6W a with a|rfl
   .exact(z b a).2.2.mono (lu _ _)
   .have G:=qT k;have T:=f _ (lu o (db (dz e b))) k
    match e,b,G,T with
    |0,b,G,T=>exact G
    |e+1,b,G,T=>exact⟨G,T⟩
 .rw[if_neg F,if_neg F];have I:a6.len c=1:=a9p;by_cases l:v=0
  .subst l;simp only[if_true];have x:d[1]? =some d[1]:=a4H a9p;rw[a5j,x];generalize d[1]=y at x;have h:=z y (a4O x);have g:=a6.hb.1 h.2.1;simp only[a5M];rw[qU C D h.1 h.2.2];simp only;rw[Gf];have j:=Gg C D o c y V g.2.2 a9p a9p W h.1.ok (by grind) (λr L k=>⟨f r L k,(h.2.2.mono L).p⟩);generalize kF o i (eH e c) (eH e y)=E at*;obtain⟨w,A⟩:=E;obtain⟨P,p,S⟩:=j;simp only at P p S;subst P;simp only;refine⟨a9q,p,λk b a=> ?_⟩;simp only[a5a]at a;rcases a with (a|a)|a;simp_all
   .exact S k b a
   .exact(z b (a5n a)).2.2.mono p
  .simp only[if_neg l];have x:d[v - 1]? =some d[v - 1]:=a4H a9p;rw[a5j,x];generalize d[v - 1]=y at x;have h:=z y (a4O x);have g:=a6.hb.1 h.2.1;simp only[a5M];rw[qU C D h.1 h.2.2];simp only;rw[Gf];have j:=Gg C D o y c g.2.2 V a9p a9p h.1.ok W (by grind) (λr L k=>⟨(h.2.2.mono L).p,f r L k⟩);generalize kF o i (eH e y) (eH e c)=E at*;obtain⟨w,A⟩:=E;obtain⟨P,p,S⟩:=j;simp only at P p S;subst P;simp only;refine⟨a9q,p,λk b a=> ?_⟩;simp only[a5a]at a;rcases a with (a|a)|a
   .exact(z b (a4Z a)).2.2.mono p
   .exact S k b a
   .exact(z b (a5n a)).2.2.mono p
structure a2A (a:ag) (h:Nat) (t:a6.T h) (r:Except Int ib×ag):Prop where
 ok:r.1= .ok (eH h t)
 le:a.le r.2
 ins:r.2.one=false->oL r.2 h t
theorem Gh {r:Nat} (c:1<=r) (d:r<=8) {b:List Int} (y:bN r b): ∀(a:Nat) (k:a6.T a) (x:ag) (z:Nat),GT r a k->gA x a k->a<z->b∈a6.bc a k->a2A x a (a6.cM bx b a k) (ic r b z x (bX a k))
 |0,k,x,z+1,h,E,_,T=>by
  obtain⟨F,rfl⟩:=a6.hZ k;have V:(dz 0 (a6.leaf F)).rows.map Prod.fst=F:=zI;rw[ic,qU c d h.jV E];simp only;rw[if_pos Ga,V,yd (O:=F) c d h.dZ h.ok y,decide_eq_true (p:=b∈F) T,if_pos rfl,Zs (O:=F) c d h.dZ h.ok y T];exact⟨rfl,ag.le_refl,λ_=>trivial⟩
 |a+1,k,x,z+1,h,E,O,T=>by
  obtain⟨p,rfl⟩:=a6.gv k;have C:=h.kids c d y;obtain⟨o,G⟩:=C.at_;have e:=a4O G;have u:=(Gd c d h y G).1 T;obtain⟨v,Q⟩:=C.two;obtain⟨D,w,_,_⟩:=C.hd o e;have X:=a6.hb.1 w;obtain⟨A,B,Y,H⟩:=a6.pw (gy c d) y a o D.wf D.dZ D.ok;have ih:=Gh c d y a o x z D (E.2 o e) a9p u;rw[ic,qU c d h.jV E];simp only;rw[if_neg zJ,Gb c d h.jV,Gc,G];simp only[a5M];have f:a6.cM bx b (a+1) (a6.node p)=a6.node (a6.lq p (a6.cV bx b (p.map (a6.cS a))) (a6.cM bx b a o)):=by simp only[a6.cM,a6.fg];rw[G]
  rw[f];clear f;have I:=(a4P.1 G).1;generalize a6.cV bx b (p.map (a6.cS a))=g at*;generalize ic r b z x (bX a o)=L at*;obtain⟨K,i⟩:=L;obtain⟨j,W,l⟩:=ih;simp only at j W l;subst j;simp only;have Z:=D.dH;have j9:(a6.bc a (a6.cM bx b a o)).length<=1000:=by grind
  have M:=a2z c d i (d:=p) (v:=g) (c:=a6.cM bx b a o) I v (λP S=>⟨(C.hd P S).1.jV,(C.hd P S).2.1,(E.2 P S).mono W⟩) a9p H B (λL m=>by
   rw[A]at m;exact D.ok L (a7N.1 m).1) (λP S=>by have:=(C.hd P S).1.dH;omega) (λk0 n N=>(l (n.zero N)).mono n)
  have V:(dz (a+1) (a6.node p)).kids=p.map (bX a):=rfl;rw[V];generalize jT i r (p.map (bX a)) g (eH a (a6.cM bx b a o))=L at*;obtain⟨K,k1⟩:=L;obtain⟨q,s,t⟩:=M;simp only at q s t;subst q;simp only;exact⟨rfl,W.trans s,t⟩
def vt:(b:Nat)->a6.T b->eG
 |0,a=>if a6.len a=0 then none else some ⟨0,a⟩
 |b+1,a=>match a6.kids a with
  | [c]=>some ⟨b,c⟩
  | _=>some ⟨b+1,a⟩
def jv (a:eG) (c:List Int):eG:=
 match a with
 |none=>none
 |some ⟨b,a⟩=>if c∈a6.bc b a then vt b (a6.cM bx c b a)else some ⟨b,a⟩
theorem a2B (E:1<=e) (F:e<=8) (j:bN e q) (l:iM e b7) (m:mr H b7) (T:q∈ez b7):pO H (jv b7 q) (kG e q H (hG b7)):=by
 match b7 with
 |none=>cases T
 |some ⟨a,b7⟩=>
  have d:GT e a b7:=l;have V:q∈a6.bc a b7:=T;have W:=uF E F d.jV;have h:=eZ.high a b7 d.jV;have w:=W.size;have A:=d.dH;have B:=Gh E F j a b7 H ((bX a b7).size.toNat+1) d m a9p V;obtain⟨n,x,y,o⟩:=a6.pw (gy E F) j a b7 d.wf d.dZ d.ok;have s:jv (some ⟨a,b7⟩) q=vt a (a6.cM bx q a b7):=by simp only[jv];rw[if_pos V]
  have t:hG (some ⟨a,b7⟩)=bX a b7:=rfl;rw[s];unfold kG;rw[t,if_neg W.ne];have p: ∀G∈a6.bc a (a6.cM bx q a b7),bN e G:=λG u=>by
   rw[n]at u;exact d.ok G (a7N.1 u).1
  have z:(a6.bc a (a6.cM bx q a b7)).length<=1000:=by grind
  have S:=d.wf;clear w W m s t l;generalize ic e q ((bX a b7).size.toNat+1) H (bX a b7)=G at*;generalize a6.cM bx q a b7=b at*;obtain⟨K,M⟩:=G;obtain⟨v,L,k⟩:=B;simp only at v L k;subst v;simp only;clear T V d h A n
  match a,b7,b,x,y,o,p,z,k,S with
  |0,b7,b,x,y,o,p,z,k,S=>
   show pO H (if a6.len b=0 then none else some ⟨0,b⟩) _;have f: ¬((eH 0 b).leaf=false/\(eH 0 b).kids.length=1):=λh=>absurd h.1 (show¬true=false by decide);by_cases c:a6.len b=0
   .rw[if_pos c,if_pos (⟨rfl,c⟩:(eH 0 b).leaf=true/\(eH 0 b).rows.length=0)];exact⟨rfl,L,λ_=>trivial⟩
   .have g: ¬((eH 0 b).leaf=true/\(eH 0 b).rows.length=0):=λh=>c h.2;rw[if_neg c,if_neg g,if_neg f,zK (h:=0) (t:=b)];have i:=(nq E F 0 b ⟨⟨a9p,o,trivial,λh=>by omega⟩,p,a9p⟩).1;rw[oz i.oy];exact⟨rfl,L.trans (lu _ _),λc=>qT c⟩
  |a+1,b7,b,x,y,o,p,z,k,S=>
   have N:=S.2.2.2 a9p;have g: ¬((eH (a+1) b).leaf=true/\(eH (a+1) b).rows.length=0):=λh=>absurd h.1 (show¬false=true by decide);rw[if_neg g];obtain⟨r,rfl⟩:=a6.gv b;rw[a6.dF]at y o
   match r,y,o,x,p,z,k with
   | [],y,_,_,_,_,_=>simp at y;omega
   | [P],_,_,x,p,z,k=>rw[if_pos (⟨rfl,rfl⟩:(eH (a+1) (a6.node [P])).leaf=false/\(eH (a+1) (a6.node [P])).kids.length=1)];exact⟨rfl,L,λc=>k c P (by simp[a6.fg])⟩
   |C::D::r,_,o,x,p,z,k=>
    have f: ¬((eH (a+1) (a6.node (C::D::r))).leaf=false/\(eH (a+1) (a6.node (C::D::r))).kids.length=1):=λh=>by
     have:=h.2;rw[show(eH (a+1) (a6.node (C::D::r))).kids=(C::D::r).map (bX a)from rfl]at this;simp at this
    rw[if_neg f,zK (h:=a+1) (t:=a6.node (C::D::r))];have i:=(nq E F (a+1) (a6.node (C::D::r)) ⟨⟨by rw[a6.dF];simp,by rw[a6.dF];exact o,x,λ_=>by rw[a6.dF];simp⟩,p,a9p⟩).1;rw[oz i.oy];exact⟨rfl,L.trans (lu _ _),λc=>⟨qT c,λP I=>(k ((lu _ _).zero c) P I).mono (lu _ _)⟩⟩
theorem a2C (P:1<=e) (S:e<=8) (T:bN e q) (F:iM e b7):iM e (jv b7 q)/\(ez (jv b7 q)).length<=(ez b7).length:=by
 match b7 with
 |none=>exact⟨trivial,a5k _⟩
 |some ⟨c,b7⟩=>
  have d:GT e c b7:=F;simp only[jv];by_cases G:q∈a6.bc c b7
  .rw[if_pos G];obtain⟨b,h,o,k⟩:=a6.pw (gy P S) T c b7 d.wf d.dZ d.ok;have i:=a8f (λa=>decide (a≠q)) (a6.bc c b7);have y:=d.dZ.filter λa=>decide (a≠q);have z: ∀C∈(a6.bc c b7).filter (λa=>decide (a≠q)),bN e C:=λC V=>d.ok C (a7N.1 V).1;have j:=d.dH;have p:=d.wf;show iM e _/\ _<=(a6.bc c b7).length;generalize (a6.bc c b7).filter (λa=>decide (a≠q))=W at*;generalize a6.cM bx q c b7=a at*;generalize (a6.bc c b7).length=r at*;clear G F d
   match c,a,b7,b,h,o,k,p with
   |0,a,b7,b,h,o,k,p=>
    show iM e (if a6.len a=0 then none else some ⟨0,a⟩)/\(ez (if a6.len a=0 then none else some ⟨0,a⟩)).length<=r;by_cases L:a6.len a=0
    .rw[if_pos L];exact⟨trivial,by simp[ez]⟩
    .rw[if_neg L];refine⟨⟨⟨a9p,k,trivial,λl=>by omega⟩,by rw[b];exact y,by rw[b];exact z,by rw[b];omega⟩,?_⟩;show(a6.bc 0 a).length<=r;rw[b];omega
   |c+1,a,b7,b,h,o,k,p=>
    have m:=p.2.2.2 a9p;obtain⟨D,rfl⟩:=a6.gv a;rw[a6.dF]at o k
    match D,o,k,h,b with
    | [],o,_,_,_=>simp at o;omega
    | [E],_,_,h,b=>
     have x:a6.bc c E=W:=by rw[<-b,a6.fN];simp
     refine⟨⟨a6.jQ.of (h E (by simp[a6.fg])),by rw[x];exact y,by rw[x];exact z,by rw[x];omega⟩,?_⟩;show(a6.bc c E).length<=r;rw[x];omega
    |f::g::D,_,k,h,b=>refine⟨⟨⟨by rw[a6.dF];simp,by rw[a6.dF];exact k,h,λ_=>by rw[a6.dF];simp⟩,by rw[b];exact y,by rw[b];exact z,by rw[b];omega⟩,?_⟩;show(a6.bc (c+1) (a6.node (f::g::D))).length<=r;rw[b];omega
  simp_all
def a2D (q:1<=e) (s:e<=8) (b:List Int) (S:Own) (t:bN e b) (a:eG) (o:R) (p:U) (C:fP p a o) (H:iM e a):
  AC Tryz.prog 53 [o,.J (ad b) S] p λT u=>p.sub u/\ ∃v h,T= .aL [v,.v (.bool h)]/\fP u (jv a b) v:=by
 have D: ∀o h:R,aY false 1 [o,h]=o:=λ_ _=>rfl;have E: ∀o h:R,aY false 1 ([o,h].drop 1)=h:=λ_ _=>rfl;refine bf hm KW a9q ?_
 match a with
 |none=>obtain rfl:=C;refine cn ?_;refine ai (Ze p) ?_;rintro _ p ⟨rfl,rfl⟩;refine cn ?_;refine ai (y0 [] [] .nil S b p trivial a9q a9q) ?_;rintro _ _ ⟨rfl,rfl⟩;have I:decide (b∈([]:List (List Int)))=false:=a9q;refine ax @I ?_;exact⟨_,U.a1,U.a1,_,_,rfl,rfl⟩
 |some ⟨c,a⟩=>
  obtain⟨h,k4,k5,rfl,k6⟩:=bt.ptr C;have r:GT e c a:=H;have k7:=r.dH;refine cn ?_;refine ai (xZ c a (.ptr h 0) p C a9p) ?_;rintro _ l ⟨V,K,M,rfl,N⟩;refine cn ?_;refine ai (y0 _ K M S b l N a9p λT O=>by have:=(r.ok T O).len;omega) ?_;rintro _ l ⟨rfl,rfl⟩;by_cases W:b∈a6.bc c a
  .refine ax @W ?_;refine ai (a2u q s b S t c a (.ptr h 0) l (bt.mono V C) r) ?_;rintro T m ⟨Q,z⟩;have X:jv (some ⟨c,a⟩) b=vt c (a6.cM bx b c a):=by simp only[jv];rw[if_pos W]
   rw[X];obtain⟨_,k8,k9,F⟩:=a6.pw (gy q s) t c a r.wf r.dZ r.ok;have l0:=r.wf;have f:=U.aq V Q;generalize a6.cM bx b c a=x at*;cases c with
   |zero=>
    obtain⟨Y,g,w,Z,rfl,k,d⟩:=id z;have G:=d.len;have l1:g.length<=4:=by rw[G];exact F
    have L:(([]:List R).length:Int)=0:=rfl;have y: ¬((0:Int)=1):=a9p;refine ax (bo (U.af k) @D @E @L @y) ?_;by_cases A:(g.length:Int)=0
    .have n:(0:Int)+(g.length:Int)=0:=a9p;refine ax (cc (U.af k) @D @E @L @y @A @n) ?_;refine⟨_,U.a1,f,_,_,rfl,?_⟩;show fP m (if a6.len x=0 then none else some ⟨0,x⟩) _;rw[if_pos (by show(a6.rows x).length=0;omega)];rfl
    .have n: ¬((0:Int)+(g.length:Int)=0):=a9p;refine ax (cc (U.af k) @D @E @L @y @A @n) ?_;refine⟨_,U.a1,f,_,_,rfl,?_⟩;show fP m (if a6.len x=0 then none else some ⟨0,x⟩) _;rw[if_neg (by show¬(a6.rows x).length=0;omega)];exact z
   |succ c=>
    obtain⟨B,rfl⟩:=a6.gv x;obtain⟨Y,i,w,Z,rfl,k,d,j,_⟩:=id z;rw[a6.fg]at d j;have G:=d.len;rw[a6.dF]at F
    match B,i,d,j,G,k,z,F with
    | [],_,_,j,_,_,_,_=>exact absurd rfl j
    | [j9],[k0],d,_,_,k,_,_=>
     have l2:k0.cells.length=1:=d.1.cells;obtain⟨P,l3,l4,rfl,_⟩:=bt.ptr d.1;have k1:cR 1 (.J [.ptr P 0] w) (.v (.int .i64 0))=some (.bV [.ptr P 0]):=by rw[hl a9p];exact iw rfl
     have k2:dq false 1 m (.bV [.ptr P 0])=some (.ptr P 0):=rfl;have y:(([R.ptr P 0]:List R).length:Int)=1:=rfl;refine ax (bC (U.af k) @D @E @y @k1 @k2) ?_;refine⟨_,U.a1,f,_,_,rfl,?_⟩;exact d.1
    |j9::c2::B,i,d,_,G,k,z,F=>simp only[a4M]at G F;have y: ¬((i.length:Int)=1):=a9p;have L:(([]:List R).length:Int)=0:=rfl;have k3: ¬((i.length:Int)+0=0):=a9p;refine ax (bC (U.af k) @D @E @L @y @k3) ?_;refine⟨_,U.a1,f,_,_,rfl,?_⟩;exact z
  .refine ax @W ?_;refine⟨_,U.a1,V,_,_,rfl,?_⟩;simp only[jv,if_neg W];exact bt.mono V C
structure aS where
 name:List UInt8
 aC:List (List UInt8)
 rows:List (List Int)
 bK:aD
 cj:eG
instance:Inhabited aS:=⟨⟨[],[],[],.nil,none⟩⟩
def aS.bz (a:aS):aK:=⟨a.name,a.aC,bm a.bK,hG a.cj⟩
def bZ (a:List aS) (b:List UInt8):Nat:=a.findIdx λc=>decide (c.name=b)
def jw (a:List aS) (b:List UInt8):Nat:=(a.takeWhile λc=> !bY b c.name).length
def bQ (a:List Int):Int:=a.getD 0 0
def gS (a:List Int) (c:List (List Int)):List (List Int):=c.takeWhile (λb=> !decide (bQ a<bQ b))++a::c.dropWhile (λb=> !decide (bQ a<bQ b))
def rj (a:List (List Int)):List (List Int):=a.foldl (λb c=>gS c b) []
def aS.put (a:aS) (b:List Int):aS:=⟨a.name,a.aC,rj (a.rows++ [b]),(dd (a.aC.length+1) b a.bK 0).1,kJ a.cj b⟩
def aS.del (a:aS) (b:List Int):aS:=⟨a.name,a.aC,a.rows.filter (λc=>decide (c≠b)),(lz (a.aC.length+1) b a.bK).1,jv a.cj b⟩
def ed (a:List aS) (b:cp):Int×List aS:=
 if ea b=false then(1,a)
 else if b.kind=1 then(if bZ a b.table<a.length then(4,a)else if 7<a.length then(10,a)else(0,a.take (jw a b.table)++⟨b.table,b.aC,[],.nil,none⟩::a.drop (jw a b.table)))
 else if a.length<=bZ a b.table then(3,a)
 else if b.kind=2 then(0,a.eraseIdx (bZ a b.table))
 else if b.row.length≠(a.getD (bZ a b.table) default).aC.length+1 then(6,a)
 else if b.kind=4 then(if b.row∈(a.getD (bZ a b.table) default).rows then(0,a.set (bZ a b.table) ((a.getD (bZ a b.table) default).del b.row))else(9,a))
 else if(a.getD (bZ a b.table) default).rows.any (λc=>decide (bQ c=bQ b.row))=true then(8,a)
 else(0,a.set (bZ a b.table) ((a.getD (bZ a b.table) default).put b.row))
structure eP (n:Nat) (t:aS):Prop where
 right:ea ⟨1,t.name,t.aC,[]⟩=true
 dA:lD (t.aC.length+1) n t.bK
 gb:t.bK.all.Perm t.rows
 go:iM (t.aC.length+1) t.cj
 nH:(ez t.cj).Perm t.rows
 dZ:t.rows.Pairwise (λa b=>bQ a<bQ b)
 dH:t.rows.length<=n
variable{j7:aS}
theorem eP.c (a:eP e j7):1<=j7.aC.length/\j7.aC.length<=7:=by have b:=a.right;simp_all [ea,nr,a4K,decide_eq_true_eq,if_pos]
def eP.row (a:eP e j7) (b:q∈j7.rows):bN (j7.aC.length+1) q:=a.dA.fi q (aD.gG (a.gb.mem_iff.2 b))
def eP.le (a:eP e j7) (b:e<=i):eP i j7:=⟨a.right,⟨a.dA.fi,a.dA.vg,by have:=a.dA.cq;omega⟩,a.gb,a.go,a.nH,a.dZ,by have:=a.dH;omega⟩
structure cO (n:Nat) (cB:List aS):Prop where
 ok: ∀t∈cB,eP n t
 dZ:cB.Pairwise (λa b=>bY a.name b.name=true)
 dH:cB.length<=8
theorem cO.nil {n:Nat}:cO n []:=⟨λb a=>(by cases a),.nil,a9q⟩
def zL (b:1<=e) (c:e<=8) (a:iM e b7):(b7=none/\hG b7=aA)\/(b7≠none/\ji e (ez b7).length (hG b7)):=by
 match b7,a with
 |none,_=>exact .inl ⟨rfl,rfl⟩
 |some ⟨d,b7⟩,a=>exact .inr ⟨a9q,uF b c (GT.jV a)⟩
theorem eP.bz {h:Nat}{d:aS} (a:eP h d) (x:h<=1000):fT d.bz=true:=by
 have y:=a.c;have c:=fh (a:=d.aC.length+1) a9p a9p a.dA.fi (by have:=a.dA.cq;omega);have z:=a.dA.cq;have C:=a.gb.length_eq;have k:=a.nH.length_eq;have D:=a.dH;have o:=c.live;unfold fT aS.bz
 dsimp only
 simp only[a4K,a6s,decide_eq_true_eq];rcases zL (e:=d.aC.length+1) a9p a9p a.go with ⟨p,b⟩|⟨p,b⟩
 .have r:(aA).live=0:=rfl;rw[p]at k;refine⟨a.right,c.ok a9p,?_,?_,by rw[c.key];rfl,.inl b⟩
  .rw[b];unfold fo;rw[decide_eq_true rfl,a9n]
  .rw[b,o,r];simp[ez]at k;omega
 .refine⟨a.right,c.ok a9p,b.ok a9p,?_,by rw[c.key];rfl,.inr ⟨b.key.len,?_⟩⟩
  .rw[o,b.live];omega
  .rw[b.size,b.live]
variable{X:List aS}
def cO.cat (a:cO e X) (b:e<=1000):cA (X.map aS.bz)=true:=by
 refine oK.2 ⟨λk c=> ?_,?_,by rw[a4T];exact a.dH⟩
 .obtain⟨d,h,rfl⟩:=a5d.1 c;exact(a.ok d h).bz b
 .rw[a7n];exact a.dZ
theorem zM: ∀ {a:List aK}{nm:List UInt8},a.Pairwise (λh k=>bY h.name k.name=true)->(a.findIdx λb=>decide (b.name=nm))<a.length->de a nm=a.findIdx λb=>decide (b.name=nm)
 | [],nm,_,c=>by simp at c
 |b::a,nm,o,c=>by
  obtain⟨x,p⟩:=a5r.1 o;rw[List.findIdx_cons]at c|-;unfold de;rw[a5z];by_cases d:b.name=nm
  .rw[decide_eq_true d];simp[d,zr]
  .rw[decide_eq_false d]at c|-;simp only[cond_false,a4M]at c|-;have ih:=zM (nm:=nm) p a9p;have r:bY b.name nm=true:=by grind
   rw[if_pos r,a4M];unfold de at ih;rw[ih]
variable{B:List UInt8}
theorem vu:((X.map aS.bz).findIdx λa=>decide (a.name=B))=bZ X B:=by rw[List.findIdx_map];rfl
theorem ti (a:bZ X B<X.length):(X.getD (bZ X B) default).name=B:=by have:=List.findIdx_getElem (w:=a);rw[a5s,a4H a];exact of_decide_eq_true this
theorem vv (a:bZ X B<X.length):X.getD (bZ X B) default∈X:=by simp_all
def Gi (b:X.length<=bZ X B): ∀a∈X,a.name≠B:=λa c d=>by
 have:=List.findIdx_lt_length_of_exists (p:=λa:aS=>decide (a.name=B)) ⟨a,c,decide_eq_true d⟩;have h:X.length<=X.findIdx λa=>decide (a.name=B):=b;omega
def zN (c:cO e X):gH (X.map aS.bz) B=decide (bZ X B<X.length):=by
 have d:(X.map aS.bz).Pairwise (λh k=>bY h.name k.name=true):=by rw[a7n];exact c.dZ
 by_cases a:bZ X B<X.length
 .have b:=zM (nm:=B) d (by rw[vu,a4T];exact a);rw[vu]at b;unfold gH;rw[b,decide_eq_true a,a4T,decide_eq_true a,a6m];refine decide_eq_true ?_;have:=ti a;rw[a5s,a4H (by rw[a4T];exact a),a6K,a8H];rw[a5s,a4H a,a6K]at this;exact this
 .rw[decide_eq_false a];unfold gH;rw[a8d];by_cases c2:de (X.map aS.bz) B<(X.map aS.bz).length
  .right;refine decide_eq_false λb=> ?_;rw[a5s,a4H c2,a6K,a8H]at b;exact Gi a9p _ (a5m (by rw[a4T]at c2;exact c2)) b
  .left;exact decide_eq_false c2
theorem Gj (a:cO e X) (d:bZ X B<X.length):de (X.map aS.bz) B=bZ X B:=by
 have h:(X.map aS.bz).Pairwise (λb c=>bY b.name c.name=true):=by rw[a7n];exact a.dZ
 grind[vu,zM,List.length_map]
theorem pP:(X.map aS.bz).find? (λa=>decide (a.name=B))=(X[bZ X B]?).map aS.bz:=by rw[List.find?_eq_getElem?_findIdx,vu,a5j]
theorem a2E {a:List UInt8} (b:B≠a):(!bY a B)=bY B a:=by grind[bY,absurd,FF,vh,zr]
theorem a2F (a:X.length<=bZ X B):de (X.map aS.bz) B=jw X B:=by
 have b:=Gi a;clear a;unfold de jw
 induction X with
 |nil=>rfl
 |cons c X ih=>have d:=a2E (b c a9q);have ih:=ih λh k=>b h (by simp[k]);rw[a5h,a5z,a5z,d];show(if bY c.name B=true then _ else _:List aK).length= _;grind
def gI (c:Nat) (d h:U):Prop:= ∀b a,d b=some (.cells a)->a.length≠c->h b=some (.cells a)
theorem gI.of {s:U} (a:iz s f):gI e s f:=λb c d _=>a b c d
theorem gI.set {c a:Nat}{b:U}{d:List R}{h:bp} (p:b a=some (.cells d)) (r:d.length=c):gI c b (b.set a h):=λk x o y=>by
 have:k≠a:=by grind
 rw[U.an _ _ this];exact o
def dR.gJ {n:Nat}{c d:U} (a:n≠4) (b:gI n c d): ∀ {h:aD}{k:R},dR c h k->dR d h k
 | .nil,_,o=>o
 | .node _ _ _ _,_,⟨p,r,x,y,h1,z,C,D⟩=>⟨p,r,x,y,h1,b _ _ z (by simpa using a.symm),C.gJ a b,D.gJ a b⟩
def fP.Gk (b:zH f t) (a:fP f b7 n):fP t b7 n:=by
 match b7 with
 |none=>exact a
 |some ⟨_,_⟩=>exact bt.vr b a
def fP.gJ {n:Nat} (a:n≠2) (b:gI n f t) (c:fP f b7 b3):fP t b7 b3:=c.Gk λh k o p r d=>b _ _ d (by simpa using a.symm)
variable{Y:bp}
theorem oM (a:bh f t i g N) (d:f e=none) (b:t e=some (.cells A)):bh f (t.set e Y) i g N:=by
 refine⟨U.ae a.1 d,?_⟩;have c:=a.2;cases N with
 |buf h k=>
  have o:h≠e:=by rintro rfl;rw[c.2]at b;cases b
  grind[U.an]
 | _=>exact c
theorem fP.cells {d:U}{b:eG}{a:R} (c:fP d b a):a.cells= [a]:=by
 match b with
 |none=>obtain rfl:a= .v (.pointer none):=c;rfl
 |some ⟨_,_⟩=>obtain⟨h,k,o,rfl,_⟩:=bt.ptr c;rfl
def gK (b:U) (a:aS) (o:R):Prop:= ∃c p d r h k,o= .ptr c 0/\b c=some (.cells [bd a.name,.J (bE a.aC) p,.J d r,h,k])/\az isRow a.rows d/\dR b a.bK h/\fP b a.cj k
def gK.gJ {b c:U} (a:gI 1 b c) {d:aS}{h:R} (k:gK b d h):gK c d h:=by obtain⟨o,p,r,x,y,z,C,D,E,F,G⟩:=k;exact⟨o,p,r,x,y,z,C,a _ _ D a9q,E,F.gJ a9t a,G.gJ a9t a⟩
def gK.sub (a:f.sub t) (b:gK f j7 n):gK t j7 n:=b.gJ (gI.of (U.o3 a))
def fE (a:U) (c:Nat) (d:List aS):Prop:= ∃b h,a c=some (.cells [.J b h])/\az (gK a) d b
def fE.sub {b c:U} (d:b.sub c) {h:Nat}{k:List aS} (a:fE b h k):fE c h k:=by obtain⟨o,p,r,x⟩:=a;exact⟨o,p,d _ _ r,x.mono λy z a=>a.sub d⟩
def zO (a:az (gK f) X g):aN 1 g:=λk c=>by
 obtain⟨d,h,rfl⟩:=a5y c;have o:=a.len;obtain⟨p,b,r,_,_,_,_,_,rfl,_⟩:=a.get (a4H (show d<X.length by omega));rw[a4H h]at b;rw[a4G b];rfl
theorem a2G (b:e<X.length) (c: ∀a<e,(X.getD a default).name≠B) (d:(X.getD e default).name=B):bZ X B=e:=by grind[bZ,List.findIdx_eq,List.getElem?_eq_getElem,decide_eq_true,decide_eq_false]
theorem a2H (b: ∀a<X.length,(X.getD a default).name≠B):X.length<=bZ X B:=by grind[Nat.lt_or_ge,bZ,absurd,ti]
def pQ (a:List aS) (b:List UInt8):Int:=if bZ a b<a.length then(bZ a b:Int)else -1
theorem a2I (h:U) (o:Nat) (b:List aS) (p:fE h o b) (c:List UInt8) (P:b.length<=1000):
  AC Tryz.prog 13 [.ptr o 0,bd c] h λz C=>C=h/\z= .v (.int .i64 (pQ b c)):=by
 obtain⟨S,T,D,r⟩:=p;have V:=r.len;have W:=U.af D;refine aO hm JW ?_;refine gO [0,1] (λa:Nat=> [(5,.v (.int .i64 a))]) (λa=>a<=b.length/\ ∀d<a,(b.getD d default).name≠c) (λa=>b.length - a) 0 ⟨a5o _,λd p=>by omega⟩ aU ?_;rintro a ⟨e,x⟩ f;refine aa ?_;refine aH (λE=> ?_) λE=> ?_
 .have k:a<b.length:=a9p;have F:b[a]? =some (b.getD a default):=by simp[List.getD,k]
  obtain⟨_,g,i,j,l,m,n,q,rfl,G,_,_,_⟩:=r.get F;have s:=U.af G;have t:=(vi (b.getD a default).name c).1;refine aa ?_;refine aH (λc2=> ?_) λc2=> ?_
  .have y:=a2G k x c2;unfold pQ;rw[y,if_pos k]
  .exact⟨a+1,⟨a9p,λd L=>by grind⟩,rfl,a9p⟩
 .have y:=a2H (B:=c) λd L=>x d a9p;unfold pQ;rw[if_neg a9p]
def a2J (h:U) (V:Nat) (b:List aS) (k:fE h V b) (Y:b.length<=1000):
  AC Tryz.prog 19 [.ptr V 0] h λu c=>h.sub c/\ ∃d,u= .ptr d 0/\h d=none/\fE c d b:=by
 obtain⟨Z,j9,W,e⟩:=k;have k0:=e.len;have k1:=U.af W;refine aO hm K2 ?_;refine bq λd x=> ?_;refine ch [0,3] (λa:Nat=> [(4,.v (.int .i64 a))]) (λa c=>h.sub c/\a<=b.length/\ ∃z f,c d=some (.cells [.J z f])/\bh h c 1 z f/\az (gK c) (b.take a) z) (λa=>b.length - a) 0 ⟨⟨U.ae U.a1 x,a9p,[],.nil,U.ah _ _ _,bh.nil (U.ae U.a1 x),trivial⟩,aU⟩ ?_;rintro a y ⟨C,k2,g,v,D,w,o⟩ k3;have k4:=U.af (C _ _ W);have A:=o.len;rw[a4L]at A;refine aa ?_;refine aH (λB=> ?_) λB=> ?_
 .have i:a<b.length:=a9p;have H:b[a]? =some (b.getD a default):=by simp[List.getD,i]
  obtain⟨_,k5,I⟩:=e.get H;obtain⟨k6,E,F,G,L,P,rfl,K,M,j,l⟩:=I.sub C;have k7:=U.af K;have k8:=U.af D;have k9:=j.cells;have eQ:=l.cells;have N:=eT (a:=b) (e:=a) (b:=default) i;generalize b.getD a default=p at*;refine aa ?_;refine aP λr S=> ?_;refine aa ?_;have O:gK (y.set r (.cells [bd p.name,.J (bE p.aC) E,.J F G,L,P])) p (.ptr r 0):=⟨r,E,F,G,L,P,rfl,U.ah _ _ _,M,j.mono (U.ae U.a1 S),l.fG (U.o3 (U.ae U.a1 S))⟩;have Q:=U.ae (Y:= .cells [bd p.name,.J (bE p.aC) E,.J F G,L,P]) (U.a1 (f:=y)) S;generalize y.set r _=l0 at*;refine cI U.a1 (by simp[aN,R.cells]) λl1 l2 m=> ?_;have n:=U.aq Q m.sub;refine aa ?_;refine qA (w.mono n) (zO (o.mono λ_ _ k=>k)) (by simp[aN,R.cells]) a9r a9r λX q s aM=> ?_;have fw:=(U.o3 n).trans aM;have T:=fw _ _ D;have ny:=U.aJ T;refine aa ?_;refine⟨a+1,⟨s.sub,a9p,_,_,rfl,oM s x T,?_⟩,rfl,a9p⟩;have t:gI 1 q (q.set d (.cells [.J (g++ [.ptr r 0]) X])):=gI.set T rfl;rw[N];exact az.snoc (o.mono λ_ _ k=>(k.gJ (gI.of fw)).gJ t) (((O.sub m.sub).gJ (gI.of aM)).gJ t)
 .obtain rfl:a=b.length:=a9p;rw[a5f]at o;exact⟨y,U.a1,C,d,rfl,x,g,v,D,o⟩
def zP (c d:Own):Prop:= ∀a h b k,c= .buf a h->d= .buf b k->a≠b
variable{s a7:R -> U -> Prop}
def Gl {F:cC s} (r:bh t f e g e5) (x:bh t f e e1 N) (y:zP e5 N) (G:aN e g) (L:aN e A) (P:(g.length+A.length)*i<=140737488355328) (S:g.length+A.length<=9223372036854775807)
  (T: ∀c b,bh t b e (g++A) c->bh t b e e1 N->zP c N->iz f b->s (.J (g++A) c) b):lW e i f (.J g e5) (.J A h5) (bO s F):=by
 obtain⟨j,V,l,z,k⟩:=r.o6;refine dp V G L P S λc b d=>T c b (d.base z) ⟨U.aq z d.sub,?_⟩ ?_ λW m o=>d.sub _ _ ?_
 .have a:=x.2;cases N with
  |buf h C=>refine⟨a.1,d.sub _ _ ?_⟩;rw[k h λD E p=>y _ _ _ _ p rfl];exact a.2
  | _=>exact a
 .rintro h C D E rfl rfl rfl;have a:=d.2.1;rw[k h λD E p=>y _ _ _ _ p rfl,x.2.2]at a;cases a
 .rw[k W (λh C a=>by subst a;rintro rfl;rw[r.2.2]at o;cases o)];exact o
def Gm {a:Int->Int->Int} (b:e<q.length) (c:e<b6.length):(List.zipWith a q b6).take (e+1)=(List.zipWith a q b6).take e++ [a (q.getD e 0) (b6.getD e 0)]:=by rw[a5V (by rw[a6B];omega),List.getElem_zipWith];simp[List.getD,b,c]
theorem Gn (D E:List Int×List Int) (m n q s:Own) (V:U) (l1:D.1.length<=1000000) (l2:E.1.length<=1000000):
  AC Tryz.prog 179 [ew D.1 D.2 m n,ew E.1 E.2 q s] V λl3 L=>V.sub L/\ ∃l4 r,l3=ew (cU D E).1 (cU D E).2 l4 r:=by
 obtain⟨b,h⟩:=D;obtain⟨c,d⟩:=E
 dsimp only at*
 have a01:=bH (q:=b);have a02:=bH (q:=c);have Z:= @dO b;have j9:= @dO h;have k0:= @dO c;have k1:= @dO d;have p:(if cT b h b.length=true then
  (if cT c d c.length=true then(if b.length=c.length then(List.zipWith y b c,List.zipWith W h d)else([],[]))else(b,h))
  else if cT c d c.length=true then(c,d)else([],[]))=cU (b,h) (c,d):=rfl
 generalize cU (b,h) (c,d)=a03 at*;refine aO hm OD ?_;refine bq λt a04=> ?_;refine da λu a05 a06 k2=> ?_;refine hp λv a07 a08 e a09 f=> ?_;refine bj (FE b h _ _ _ _ l1) ?_;refine bj (FE c d _ _ _ _ l2) ?_;cases pI:cT b h b.length with
 |false=>
  cases ij:cT c d c.length with
  |false=>rw[pI,ij,if_neg a9q,if_neg a9q]at p;refine aa ?_;exact⟨.nil,.nil,by rw[<-p];rfl⟩
  |true=>rw[pI,ij,if_neg a9q,if_pos rfl]at p;refine aa ?_;exact⟨q,s,by rw[<-p]⟩
 |true=>
  cases ij:cT c d c.length with
  |false=>rw[pI,ij,if_pos rfl,if_neg a9q]at p;refine aa ?_;exact⟨m,n,by rw[<-p]⟩
  |true=>
   rw[pI,ij,if_pos rfl,if_pos rfl]at p;by_cases cl:b.length=c.length
   .rw[if_pos cl]at p;have a10:=lo pI;have a11:=lo ij;refine aa ?_;refine aP λr k=> ?_;generalize P:((V.set t _).set u _).set v _=F at*;have l5:V.sub F:=by subst P;exact aU
    have w:F t=some (.cells [.J (ad b) m,.J (ad h) n]):=by subst P;exact aU
    have A:F u=some (.cells [.J (ad c) q,.J (ad d) s]):=by subst P;exact aU
    have aM:F v=some (.cells [.J [] .nil,.J [] .nil]):=by subst P;exact aU
    have a13:v≠r:=by rintro rfl;rw[aM]at k;cases k
    have a14:t≠r:=by rintro rfl;rw[w]at k;cases k
    have a15:u≠r:=by rintro rfl;rw[A]at k;cases k
    clear P pI ij;have k3:=λa S B=>Gm (a:=y) (q:=b) (b6:=c) (e:=a) S B;have k4:=λa S B=>Gm (a:=W) (q:=h) (b6:=d) (e:=a) S B;have a16:(List.zipWith y b c).length=b.length:=by rw[a6B];omega
    have a18:(List.zipWith W h d).length=b.length:=by rw[a6B];omega
    generalize List.zipWith y b c=z at*;generalize List.zipWith W h d=C at*;refine aa ?_;refine ch [2,3,4,7] (λa:Nat=> [(8,.v (.int .i64 (a:Int)))]) (λa L=>a<=b.length/\ ∃T x,L r=some (.cells [.J (ad (z.take a)) T,.J (ad (C.take a)) x])/\bh F L 1 (ad (z.take a)) T/\bh F L 1 (ad (C.take a)) x/\zP T x) (λa=>b.length - a) 0
     ⟨⟨a5o _,.nil,.nil,U.ah _ _ _,bh.nil (U.ae U.a1 k),bh.nil (U.ae U.a1 k),λ_ _ _ _ S=>by cases S⟩,aU⟩ ?_
    rintro a a19 ⟨a27,T,x,H,o,G,I⟩ a29;have qv:=U.af (o.sub _ _ w);have mU:=U.af (o.sub _ _ A);have l6:=U.af H;have a30:(ad (z.take a)).length=a:=by rw[bH,a4L];omega
    have a34:(ad (C.take a)).length=a:=by rw[bH,a4L];omega
    by_cases a36:a<b.length
    .have a38:=Z (a:=a) a9p;have a42:=j9 (a:=a) a9p;have a43:=k0 (a:=a) a9p;have a47:=k1 (a:=a) a9p;have k5:=k3 a a9p a9p;have k6:=k4 a a9p a9p;clear Z j9 k0 k1 k3 k4;generalize b.getD a 0=g at*;generalize c.getD a 0=i at*;generalize h.getD a 0=a3 at*;generalize d.getD a 0=a4 at*;have k7:(a:Int)<(c.length:Int):=a9p;have zQ:aN 1 (ad (z.take a)):=λk2 K=>by obtain⟨l7,_,rfl⟩:=a5d.1 K;rfl
     have zR:aN 1 (ad (C.take a)):=λk2 K=>by obtain⟨l7,_,rfl⟩:=a5d.1 K;rfl
     have k8:ad (z.take (a+1))=ad (z.take a)++ [.v (.int .i64 (y g i))]:=by rw[k5];simp[ad]
     have k9:ad (C.take (a+1))=ad (C.take a)++ [.v (.int .i64 (W a3 a4))]:=by rw[k6];simp[ad]
     clear k5 k6;generalize ad (z.take a)=M at*;generalize ad (C.take a)=N at*;refine aa ?_;refine cI U.a1 (by simp[aN,R.cells]) λa48 a52 O=> ?_;refine aa ?_;refine Gl (o.mono O.sub) (G.mono O.sub) I zQ (by simp[aN,R.cells]) a9r a9r λj l0 o G I l8=> ?_;have l:=l8 _ _ (O.sub _ _ H);have aF:=U.aJ l;have qv:=U.af (o.sub _ _ w);have mU:=U.af (o.sub _ _ A);refine aa ?_;have l9:=oM (Y:= .cells [.J (M++ [.v (.int .i64 (y g i))]) j,.J N x]) o k l;have n0:=oM (Y:= .cells [.J (M++ [.v (.int .i64 (y g i))]) j,.J N x]) G k l;have n1:=U.ah l0 r (.cells [.J (M++ [.v (.int .i64 (y g i))]) j,.J N x]);clear l aF qv mU o G H l6;generalize l0.set r _=a56 at*;refine cI U.a1 (by simp[aN,R.cells]) λa57 a61 Q=> ?_;refine aa ?_;refine Gl (n0.mono Q.sub) (l9.mono Q.sub) (λn2 k7 n3 n4 e f X=>I _ _ _ _ f e X.symm) zR (by simp[aN,R.cells]) a9r a9r λn5 a62 G o n9 a00=> ?_;have Y:=a00 _ _ (Q.sub _ _ n1);have aF:=U.aJ Y;refine aa ?_;refine⟨a+1,⟨a9p,j,n5,?_,?_,?_,λn2 k7 n3 n4 e f X=>n9 _ _ _ _ f e X.symm⟩,rfl,a9p⟩
     .rw[k8,k9]
     .rw[k8];exact oM o k Y
     .rw[k9];exact oM G k Y
    .obtain rfl:a=b.length:=a9p;have a63:=U.aJ (o.sub _ _ aM);refine aa ?_;refine iA ?_;exact⟨U.aq l5 o.sub,T,x,by grind⟩
   .rw[if_neg cl]at p;refine aa ?_;refine iA ?_;exact⟨.nil,.nil,by rw[<-p];rfl⟩
def iq (a:ay) (b c d:Own) (k:a.sum.length=32):(ab a b c d).length=37/\aY true 2 ((ab a b c d).drop 32)=ew a.aV a.aW b c/\aY false 1 ((ab a b c d).drop 34)= .v (.int .i64 a.live)/\aY false 1 ((ab a b c d).drop 35)= .v (.int .i64 a.size)/\aY false 1 ((ab a b c d).drop 36)= .J (ad a.key) d/\aY true 37 (ab a b c d)= .agg (ab a b c d):=by have h:=aX (N:=b) (e5:=c) (h5:=d) k;refine⟨h.len,by rw[h.d32];rfl,by rw[h.d34];rfl,by rw[h.d35];rfl,by rw[h.d36];rfl,?_⟩;show R.agg ((ab a b c d).take 37)= _;rw[h.t37]
theorem Gp (a:c4) (V W:List R) (m n:Own) (y:U) (Z:az dh a.rows V) (j9:az bs a.kids W) (a65:a.rows.length<=4) (a68:a.kids.length<=4)
  (k4: ∀o∈a.rows,1<=o.1.length/\o.1.length<=8) (l6: ∀c∈a.kids,c.hv/\c.sum.length=32/\c.cE) (a01:(eF a).size<=1048576) (a02:a.kind=2->a.rows≠ []) (a03:a.kind=3->a.kids≠ []):
  AC Tryz.prog 113 [gP a (.J V m) (.J W n)] y λo G=>y.sub G/\ ∃d h H,o= .aL [.agg (ab (eV a) d h H),.v (.bool true)]:=by
 have a69:=Z.len;have a71:=j9.len;have a73:(db a).length<=3000:=by have l7:=qK (l:=a.rows) (c:=gq) (d:=100) λo r=>xu (k4 o r).2;grind[yF,db,List.length_append,List.length_cons]
 have eQ:=iq aA .nil .nil .nil bk;have x:(eU (db a)).length=32:=og _;have z:(⟨eU (db a),(eF a).aQ.1,(eF a).aQ.2,(eF a).live,(eF a).size,keyOf a⟩:ay)=eV a:=rfl;have k0:=λa04 y r=>a1G (db a) a04 y r a9p;have l8:=λy=>a0u a V W m n y Z j9 a9p a9p (λo r=>(k4 o r).2) l6;generalize eU (db a)=p at*;generalize eV a=L at*;have a74:(cL p).cells=p.map ak:=rfl;have a81:(p.map ak).length=32:=by simp[x]
 have a83:putAt (ab aA .nil .nil .nil) 0 (p.map ak)=ab (fL p ⟨0,0,([],[])⟩) .nil .nil .nil:=uk bk x;have q: ∀c:ay,c.sum.length=32-> ∀d h H,putAt (ab aA .nil .nil .nil) 0 (ab c d h H)=ab c d h H:=λc r d h H=>cF bk r;have a84:=q (fL p ⟨0,0,([],[])⟩) x .nil .nil .nil;have P:=λ(k:gf) (d h:Own)=>iq (fL p k) d h .nil x;have a86:=P ⟨0,0,([],[])⟩ .nil .nil;refine aO hm MA ?_;refine bq λw a05=> ?_;refine da λI a06 a88 a07=> ?_;rw[cr];have l9:((y.set w (.cells [.v (.int .u8 a.kind.toNat),.J V m,.J W n])).set I (.cells (ab aA .nil .nil .nil))) w=some (.cells [.v (.int .u8 a.kind.toNat),.J V m,.J W n]):=by rw[U.an _ _ a07,U.ah]
 have n0:=U.ah (y.set w (.cells [.v (.int .u8 a.kind.toNat),.J V m,.J W n])) I (.cells (ab aA .nil .nil .nil));have n1:y.sub ((y.set w (.cells [.v (.int .u8 a.kind.toNat),.J V m,.J W n])).set I (.cells (ab aA .nil .nil .nil))):=U.ae (U.ae U.a1 a05) a06;generalize (y.set w _).set I _=a08 at*;refine hR (l8 a08) λa09 A k5=> ?_;have k0:=k0 a09 A (nD.al k5);have k1:=k5.sub;refine bj k0 ?_;clear k0 l8;refine aP λf g=> ?_;have k6:=k1 _ _ l9;have c2:=k1 _ _ n0;have a89:w≠f:=by rintro rfl;rw[k6]at g;cases g
 have a90:I≠f:=by rintro rfl;rw[c2]at g;cases g
 have a10:=U.aq n1 k1;clear k1 l9 n0 n1 k5;refine aa ?_;refine ch [1,2,4] (λb:Nat=> [(5,.v (.int .i64 (b:Int)))]) (λb G=>b<=a.rows.length/\A.sub G/\(0<=((a.rows.take b).foldl dP ⟨0,a.rows.length,([],[])⟩).live/\((a.rows.take b).foldl dP ⟨0,a.rows.length,([],[])⟩).live<=b/\((a.rows.take b).foldl dP ⟨0,a.rows.length,([],[])⟩).aQ.1.length<=8/\((a.rows.take b).foldl dP ⟨0,a.rows.length,([],[])⟩).aQ.2.length<=8)/\
   ∃d h,G f=some (.cells (ab (fL p ⟨((a.rows.take b).foldl dP ⟨0,a.rows.length,([],[])⟩).live,b,((a.rows.take b).foldl dP ⟨0,a.rows.length,([],[])⟩).aQ⟩) d h .nil))) (λb=>a.rows.length - b) 0 ⟨⟨a5o _,U.ae (U.ae U.a1 g) g,a9q,.nil,.nil,U.ah _ _ _⟩,aU⟩ ?_
 rintro b k7 ⟨a11,i,⟨a92,a94,a13,a14⟩,d,h,aM⟩ a15;have K:=λr=>eT (a:=a.rows) (b:=([],false)) (e:=b) r;have C:=λr=>congrArg (List.foldl dP ⟨0,a.rows.length,([],[])⟩) (K r);generalize k2:(a.rows.take b).foldl dP ⟨0,a.rows.length,([],[])⟩=k at*;have n2:=U.af (i _ _ k6);have M:=U.af aM;have N:=P ⟨k.live,b,k.aQ⟩ d h;have n3:putAt (ab (fL p ⟨k.live,b,k.aQ⟩) d h .nil) 35 [.v (.int .i64 ((b:Int)+1))]=ab (fL p ⟨k.live,(b:Int)+1,k.aQ⟩) d h .nil:=sB x;have s:=U.aJ aM
 dsimp only at N
 refine aa ?_;refine aH (λO=> ?_) λO=> ?_
 .have j:b<a.rows.length:=a9p;have Q:a.rows[b]? =some (a.rows.getD b ([],false)):=by simp[List.getD,j]
  obtain⟨_,l,S,rfl⟩:=Z.get Q;have k3:=k4 _ (a4O Q);have C:=C j;rw[a6N,k2]at C;generalize a.rows.getD b ([],false)=o at*;have n4:eC 2 V[b]? =some (.bV [.J (ad o.1) S,.v (.bool o.2)]):=by rw[l];rfl
  obtain⟨o,a16⟩:=o
  dsimp only at k3 n4
  have k8:=P ⟨k.live,(b:Int)+1,k.aQ⟩ d h
  dsimp only at k8
  cases a16 with
  |false=>
   refine aa ?_;have t:(a.rows.take (b+1)).foldl dP ⟨0,a.rows.length,([],[])⟩=k:=by rw[C];rfl
   refine⟨b+1,⟨j,?_,d,h,?_⟩,rfl,a9p⟩;grind
   .rw[t];push_cast;rfl
  |true=>
   have a18:putAt (ab (fL p ⟨k.live,(b:Int)+1,k.aQ⟩) d h .nil) 34 [.v (.int .i64 (k.live+1))]=ab (fL p ⟨k.live+1,(b:Int)+1,k.aQ⟩) d h .nil:=sA x;have e:=P ⟨k.live+1,(b:Int)+1,k.aQ⟩ d h
   dsimp only at e
   refine aa ?_;generalize u:k7.set f _=v;have k9:v f=some (.cells (ab (fL p ⟨k.live+1,(b:Int)+1,k.aQ⟩) d h .nil)):=by subst u;exact U.ah _ _ _
   have l0:A.sub v:=by subst u;exact U.ae i g
   clear u s M;refine ai (Gn k.aQ (o,o) d h S S v a9p (by dsimp only;omega)) ?_;rintro _ a19 ⟨X,D,E,rfl⟩;have l1:=X _ _ k9;have s:=U.aJ l1;have a27:cU k.aQ (gr o)=cU k.aQ (o,o):=by unfold gr;rw[if_pos k3]
   have a29:putAt (ab (fL p ⟨k.live+1,(b:Int)+1,k.aQ⟩) d h .nil) 32 [.J (ad (cU k.aQ (o,o)).1) D,.J (ad (cU k.aQ (o,o)).2) E]=ab (fL p ⟨k.live+1,(b:Int)+1,cU k.aQ (o,o)⟩) D E .nil:=xw x;have a30:=oo k.aQ (o,o) 8 a13 a14 k3.2 k3.2;refine aa ?_;have t:(a.rows.take (b+1)).foldl dP ⟨0,a.rows.length,([],[])⟩=⟨k.live+1,k.size,cU k.aQ (o,o)⟩:=by rw[C];show dP k (o,true)= _;rw[dP,if_pos rfl,a27]
   refine⟨b+1,⟨j,U.aq l0 X,?_,D,E,?_⟩,rfl,a9p⟩;grind
   .rw[t];push_cast;rfl
 obtain rfl:b=a.rows.length:=a9p;rw[a5f]at k2;have a34:k.size=a.rows.length:=by rw[<-k2,xN]
 have a36:(⟨k.live,a.rows.length,k.aQ⟩:gf)=k:=by rw[<-a34]
 rw[a36]at aM;clear C K O M N n3 s n2;refine ch [1,2,4] (λb:Nat=> [(6,.v (.int .i64 (b:Int)))]) (λb G=>b<=a.kids.length/\A.sub G/\(0<=((a.kids.take b).foldl ev k).live/\((a.kids.take b).foldl ev k).live<=4+b*1048576/\0<=((a.kids.take b).foldl ev k).size/\((a.kids.take b).foldl ev k).size<=4+b*1048576/\((a.kids.take b).foldl ev k).aQ.1.length<=8/\((a.kids.take b).foldl ev k).aQ.2.length<=8)/\
   ∃d h,G f=some (.cells (ab (fL p ((a.kids.take b).foldl ev k)) d h .nil))) (λb=>a.kids.length - b) 0 ⟨⟨a5o _,i,a9r,d,h,aM⟩,aU⟩ ?_
 clear aM i;rintro b k7 ⟨a11,i,⟨a95,a96,a97,a98,a38,a42⟩,d,h,aM⟩ a15;have K:=λr=>eT (a:=a.kids) (b:=aA) (e:=b) r;have C:=λr=>congrArg (List.foldl ev k) (K r);generalize l2:(a.kids.take b).foldl ev k=T at*;have n2:=U.af (i _ _ k6);have M:=U.af aM;have N:=P T d h;have s:=U.aJ aM
 dsimp only at N
 refine aa ?_;refine aH (λO=> ?_) λO=> ?_
 .have j:b<a.kids.length:=a9p;have Q:a.kids[b]? =some (a.kids.getD b aA):=by simp[List.getD,j]
  obtain⟨_,l,l3,a43,D,E,F,rfl⟩:=j9.get Q;obtain⟨a47,_,_⟩:=l6 _ (a4O Q);obtain⟨l7,a48,a99,b00,b01,b02,b03⟩:=a47;have C:=C j;rw[a6N,l2]at C;generalize a.kids.getD b aA=c at*;have l4:=iq c D E F l3;have n4:eC 37 W[b]? =some (.bV (ab c D E F)):=by rw[l];exact iw l4.1
  have n3:putAt (ab (fL p T) d h .nil) 35 [.v (.int .i64 (T.size+c.size))]=ab (fL p ⟨T.live,T.size+c.size,T.aQ⟩) d h .nil:=sB x;have a18:putAt (ab (fL p ⟨T.live,T.size+c.size,T.aQ⟩) d h .nil) 34 [.v (.int .i64 (T.live+c.live))]=ab (fL p ⟨T.live+c.live,T.size+c.size,T.aQ⟩) d h .nil:=sA x;have k8:=P ⟨T.live,T.size+c.size,T.aQ⟩ d h;have e:=P ⟨T.live+c.live,T.size+c.size,T.aQ⟩ d h
  dsimp only at k8 e
  generalize ab c D E F=a52 at*;clear l;refine aa ?_;generalize u:k7.set f _=v;have k9:v f=some (.cells (ab (fL p ⟨T.live+c.live,T.size+c.size,T.aQ⟩) d h .nil)):=by subst u;exact U.ah _ _ _
  have l0:A.sub v:=by subst u;exact U.ae i g
  clear u s M;refine ai (Gn T.aQ (c.aV,c.aW) d h D E v a9p (by dsimp only;omega)) ?_;rintro _ a19 ⟨X,cg,c9,rfl⟩;have l1:=X _ _ k9;have s:=U.aJ l1;have a29:putAt (ab (fL p ⟨T.live+c.live,T.size+c.size,T.aQ⟩) d h .nil) 32 [.J (ad (cU T.aQ (c.aV,c.aW)).1) cg,.J (ad (cU T.aQ (c.aV,c.aW)).2) c9]=ab (fL p ⟨T.live+c.live,T.size+c.size,cU T.aQ (c.aV,c.aW)⟩) cg c9 .nil:=xw x;have a30:=oo T.aQ (c.aV,c.aW) 8 a38 a42 l7 a48;refine aa ?_;have t:(a.kids.take (b+1)).foldl ev k=⟨T.live+c.live,T.size+c.size,cU T.aQ (c.aV,c.aW)⟩:=by rw[C];rfl
  refine⟨b+1,⟨j,U.aq l0 X,?_,cg,c9,?_⟩,rfl,a9p⟩;grind
  .rw[t]
 obtain rfl:b=a.kids.length:=a9p;rw[a5f]at l2;have a56:eF a=T:=by unfold eF;rw[k2,l2]
 rw[a56]at a01 z;have b04:=U.aJ (i _ _ c2);have b05: ∀G:U,A.sub G->y.sub G:=λG r=>U.aq a10 r;clear C K O;have B:L.sum.length=32:=by rw[<-z];exact x
 have l5:L.size=T.size:=by rw[<-z]
 by_cases g2:a.kind=2
 .have bq:(a.kind.toNat:Int)=2:=by rw[g2];rfl
  obtain⟨o,b06,n5⟩:=a6T (a02 g2);obtain⟨_,l,S,rfl⟩:=Z.get (i:=0) (x:=o) (by rw[n5];rfl);have Y:keyOf a=o.1:=by unfold keyOf;rw[if_pos g2,n5];rfl
  rw[Y]at z;have a57:cR 2 (.J V m) (.v (.int .i64 0))=some (.bV [.J (ad o.1) S,.v (.bool o.2)]):=by show cR 2 _ (.v (.int .i64 ((0:Nat):Int)))= _;rw[o2,l];rfl
  have a61:putAt (ab (fL p T) d h .nil) 36 [.J (ad o.1) S]=ab L d h S:=by rw[<-z];exact sC x
  have e:=iq L d h S B;have n9:=q L B d h S;rw[l5]at e;generalize o.1=a62 at*;clear P q z;refine iA ?_;refine iA ?_;exact⟨d,h,S,rfl⟩
 have bq: ¬(a.kind.toNat:Int)=2:=λt=>g2 (a5G.1 (by grind));refine iA ?_;by_cases g3:a.kind=3
 .have hp:(a.kind.toNat:Int)=3:=by rw[g3];rfl
  obtain⟨c,b07,a00⟩:=a6T (a03 g3);obtain⟨_,l,l3,a43,D,E,F,rfl⟩:=j9.get (i:=0) (x:=c) (by rw[a00];rfl);have Y:keyOf a=c.key:=by unfold keyOf;rw[if_neg g2,if_pos g3,a00];rfl
  rw[Y]at z;have l4:=iq c D E F l3;have a57:cR 37 (.J W n) (.v (.int .i64 0))=some (.bV (ab c D E F)):=by show cR 37 _ (.v (.int .i64 ((0:Nat):Int)))= _;rw[o2,l];exact iw l4.1
  have a61:putAt (ab (fL p T) d h .nil) 36 [.J (ad c.key) F]=ab L d h F:=by rw[<-z];exact sC x
  have e:=iq L d h F B;have n9:=q L B d h F;rw[l5]at e;generalize ab c D E F=a52 at*;generalize c.key=a62 at*;clear P q z;refine iA ?_;refine iA ?_;exact⟨d,h,F,rfl⟩
 .have hp: ¬(a.kind.toNat:Int)=3:=λt=>g3 (a5G.1 (by grind));have Y:keyOf a= []:=by unfold keyOf;rw[if_neg g2,if_neg g3]
  rw[Y]at z;have a63:fL p T=L:=z;rw[a63]at M N s;have e:=iq L d h .nil B;have n9:=q L B d h .nil;rw[l5]at e;clear P q z;refine iA ?_;refine iA ?_;exact⟨d,h,.nil,rfl⟩
def a2K: ∀(a:List (a6.T e)),ez (px a)=a.flatMap (a6.bc e)
 | []=>rfl
 | [b]=>by simp[px,ez]
 |c::d::h=>rfl
theorem a2L: ∀(a:Nat) (b:a6.T a),ez (vt a b)=a6.bc a b
 |0,b=>by
  obtain⟨d,rfl⟩:=a6.hZ b;show ez (if a6.len (a6.leaf d)=0 then none else some ⟨0,a6.leaf d⟩)= _;by_cases c:a6.len (a6.leaf d)=0
  .rw[if_pos c];rw[a6.hy]at c;rw[a6.kC,a4N c];rfl
  .rw[if_neg c];rfl
 |a+1,b=>by
  obtain⟨h,rfl⟩:=a6.gv b;show ez (match a6.kids (a6.node h)with
   | [k]=>some ⟨a,k⟩
   | _=>some ⟨a+1,a6.node h⟩)= _
  grind[a6.fg,a6.fN,ez]
def a2M (d:1<=e) (h:e<=8) (k:bN e q) (o:iM e b7) (p:q∉ez b7):(ez (kJ b7 q)).Perm (q::ez b7):=by
 match b7 with
 |none=>show(a6.bc 0 (a6.leaf [q])).Perm _;rw[a6.kC];exact .refl _
 |some ⟨a,b7⟩=>have b:GT e a b7:=o;have c:q∉a6.bc a b7:=p;simp only[kJ];rw[if_neg c,a2K];rw[(a6.qS (gy d h) k a b7 b.wf b.dZ b.ok c).1];unfold a6.dQ;exact a7r.trans (.cons _ (List.Perm.of_eq a5E))
def a2N (d:1<=e) (h:e<=8) (k:bN e q) (o:iM e b7) (c:q∈ez b7):ez (jv b7 q)=(ez b7).filter λp=>decide (p≠q):=by
 match b7 with
 |none=>cases c
 |some ⟨a,b7⟩=>have b:GT e a b7:=o;have r:q∈a6.bc a b7:=c;simp only[jv];rw[if_pos r,a2L];exact(a6.pw (gy d h) k a b7 b.wf b.dZ b.ok).1
theorem Gq (a:List Int) (b:List (List Int)):(gS a b).Perm (a::b):=by grind[List.takeWhile_append_dropWhile,decide,bQ,gS,List.perm_middle]
theorem Gr {b:List Int}: ∀ {a:List (List Int)},a.Pairwise (λk o=>bQ k<bQ o)->(∀c∈a,bQ b≠bQ c)->(gS b a).Pairwise (λk o=>bQ k<bQ o)
 | [],_,_=>by simp[gS]
 |c::a,r,x=>by
  obtain⟨z,C⟩:=a5r.1 r;have D:=x c a9q;by_cases y:bQ b<bQ c
  .have p:gS b (c::a)=b::c::a:=by simp[gS,a5z,a6d,y]
   rw[p];refine a5r.2 ⟨λh d=> ?_,r⟩;grind
  .have p:gS b (c::a)=c::gS b a:=by simp[gS,a5z,a6d,y]
   rw[p];refine a5r.2 ⟨λh d=> ?_,Gr C λh d=>x h (by simp[d])⟩;rcases a5i.1 ((Gq b a).mem_iff.1 d)with rfl|d
   .omega
   .exact z h d
def Gs: ∀(b a:List (List Int)),(a++b).Pairwise (λh k=>bQ h≠bQ k)->a.Pairwise (λh k=>bQ h<bQ k)->(b.foldl (λo c=>gS c o) a).Perm (a++b)/\(b.foldl (λo c=>gS c o) a).Pairwise (λh k=>bQ h<bQ k)
 | [],a,_,d=>by simpa using d
 |c::b,a,d,r=>by
  have p:(gS c a++b).Perm (a++c::b):=((Gq c a).append_right b).trans a7r.symm;obtain⟨F,G,x⟩:=a5P.1 d;obtain⟨y,z⟩:=Gs b (gS c a) (p.symm.pairwise d λd=>d.symm) (Gr r λC D E=>x C D c a9q E.symm);exact⟨y.trans p,z⟩
theorem a2O (c:O.Pairwise (λa b=>bQ a<bQ b)) (p: ∀d∈O,bQ q≠bQ d):(rj (O++ [q])).Perm (q::O)/\(rj (O++ [q])).Pairwise (λa b=>bQ a<bQ b):=by
 have h:([]++(O++ [q])).Pairwise (λa b=>bQ a≠bQ b):=by rw[a5b];refine a5P.2 ⟨c.imp λc=>by omega,a9q,λa r b x=> ?_⟩;grind
 obtain⟨k,o⟩:=Gs (O++ [q]) [] h .nil;exact⟨k.trans (List.perm_append_singleton _ _),o⟩
def eP.put {d:Nat}{a:aS} (b:eP d a) (G:d<900) {c:List Int} (h:bN (a.aC.length+1) c) (o: ∀y∈a.rows,bQ y≠bQ c):eP (d+1) (a.put c)/\(dd (a.aC.length+1) c a.bK 0).2=true/\c∉ez a.cj:=by
 have L:=b.c;have p:c∉a.rows:=λhm=>o c hm rfl;have r:(dd (a.aC.length+1) c a.bK 0).2=true:=by
  cases z:(dd (a.aC.length+1) c a.bK 0).2 with
  |true=>rfl
  |false=>exact absurd (b.gb.mem_iff.1 (zm z)) p
 have x:c∉ez a.cj:=λhm=>p (b.nH.mem_iff.1 hm);obtain⟨k,C⟩:=a2O b.dZ λD E F=>o D E F.symm;have P:=b.nH.length_eq;have S:=b.dH;refine⟨⟨b.right,b.dA.ins h,?_,(a2x a9p a9p h b.go a9p).1,?_,C,?_⟩,r,x⟩
 .exact(zl h b.dA.fi r).trans ((b.gb.cons c).trans k.symm)
 .exact(a2M a9p a9p h b.go x).trans ((b.nH.cons c).trans k.symm)
 .show(rj (a.rows++ [c])).length<=d+1;rw[k.length_eq,a4M];omega
theorem a2P {b:List (List Int)} (d:O.Pairwise (·≠ ·)) (a:O.Perm (q::b)):b.Perm (O.filter λc=>decide (c≠q)):=by have h:=(a.filter λc=>decide (c≠q)).symm;have k:(q::b).Pairwise (·≠ ·):=a.pairwise d λa=>a.symm;obtain⟨o,_⟩:=a5r.1 k;rw[a8c,if_neg a9q]at h;grind[decide,List.filter_eq_self,decide_eq_true]
def eP.rf (a:eP e j7):j7.rows.Pairwise (·≠ ·):=a.dZ.imp λa b=>by subst b;omega
theorem eP.del {k:Nat}{b:aS} (a:eP k b) {c:List Int} (d:c∈b.rows):eP k (b.del c)/\(cm (b.aC.length+1) c b.bK 0).2=true/\c∈ez b.cj:=by
 have z:=a.c;have h:=a.row d;have o:(cm (b.aC.length+1) c b.bK 0).2=true:=by
  cases r:(cm (b.aC.length+1) c b.bK 0).2 with
  |true=>rfl
  |false=>exact absurd (a.gb.mem_iff.2 d) (zn h.len a.dA.fi a.dA.vg r)
 have p:c∈ez b.cj:=a.nH.mem_iff.2 d;have x:=a1D a.dA o;refine⟨⟨a.right,a.dA.del,?_,(a2C a9p a9p h a.go).1,?_,a.dZ.filter _,a5H (a8f _ _) a.dH⟩,o,p⟩
 .exact a2P a.rf (a.gb.symm.trans x)
 .show(ez (jv b.cj c)).Perm (b.rows.filter λy=>decide (y≠c));rw[a2N a9p a9p h a.go p];exact a.nH.filter _
def eP.none (a:eP e j7) (d:q.length=j7.aC.length+1) (b:q∉j7.rows):(cm (j7.aC.length+1) q j7.bK 0).2=false:=by
 cases c:(cm (j7.aC.length+1) q j7.bK 0).2 with
 |false=>rfl
 |true=>exact absurd (a.gb.mem_iff.1 ((ve c).mem_iff.2 a9q)) b
variable{b8:cp}
theorem zS (a:ea b8=true) (b:b8.kind=1):ea ⟨1,b8.table,b8.aC,[]⟩=true:=by unfold ea at a|-;simp_all
def Gt {a:List (List UInt8)} (b:ea ⟨1,B,a,[]⟩=true):eP e ⟨B,a,[],.nil,none⟩:=⟨b,lD.nil,.refl _,trivial,.refl _,.nil,a5o _⟩
theorem add_eq (b:cO e X) (d:e<=1000) {a:List (List UInt8)} (h:ea ⟨1,B,a,[]⟩=true):
  kc (X.map aS.bz) ⟨B,a,aA,aA⟩=if bZ X B<X.length then .error 4 else if 7<X.length then .error 10 else .ok ((X.take (jw X B)++⟨B,a,[],.nil,none⟩::X.drop (jw X B)).map aS.bz):=by
 have k:fT ⟨B,a,aA,aA⟩=true:=(Gt (e:=0) h).bz a9p;unfold kc;rw[b.cat d,k,Bool.and_self,if_pos rfl]
 dsimp only
 rw[zN b,a4T];by_cases c:bZ X B<X.length;simp_all
 .rw[if_neg (by simpa using c),if_neg c,a2F a9p];by_cases c2:7<X.length
  .rw[if_pos a9p,if_pos c2]
  .rw[if_neg a9p,if_neg c2,a5N,a5h,a7I,a7u];rfl
theorem zT (a:cO e X) (c:e<=1000):cM (X.map aS.bz) B=if bZ X B<X.length then .ok ((X.eraseIdx (bZ X B)).map aS.bz)else .error 3:=by
 unfold cM;rw[a.cat c,if_pos rfl,zN a];by_cases b:bZ X B<X.length
 .rw[if_pos (decide_eq_true b),if_pos b,Gj a b,a6X,a5N,a7I,a7u]
 grind
theorem pf (a:cO e X) (b:e<=1000) (c:eP i j7) (d:i<=1000) (h:bZ X j7.name<X.length):kd (X.map aS.bz) j7.bz= .ok ((X.set (bZ X j7.name) j7).map aS.bz):=by unfold kd;rw[a.cat b,c.bz d,Bool.and_self,if_pos rfl];show(if gH (X.map aS.bz) j7.name=true then _ else _)= _;rw[zN a,if_pos (decide_eq_true h)];grind[aS.bz,set,de,Gj,List.map_set]
def cO.zU (c: ∀d∈X,eP e d) (h:cA (X.map aS.bz)=true):cO e X:=by obtain⟨_,a,b⟩:=oK.1 h;rw[a7n]at a;rw[a4T]at b;exact⟨c,a,b⟩
def cO.le {b c:Nat}{d:List aS} (a:cO b d) (h:b<=c):cO c d:=⟨λk o=>(a.ok k o).le h,a.dZ,a.dH⟩
theorem cO.set {b:Nat}{a:List aS} (d:cO b a) (x:b<1000) {c:aS} (h:eP (b+1) c) (k:bZ a c.name<a.length):cO (b+1) (a.set (bZ a c.name) c):=
 cO.zU (λo p=>by
  rcases a6W p with r|rfl
  .exact(d.ok o r).le a9p
  .exact h) (G5 (pf d a9p h a9p k))
def tj (a:ea b8=true) (h:b8.kind≠1) (k:b8.kind≠2):(b8.kind=3\/b8.kind=4):=by
 have a:=a;simp only[ea,a4K]at a;have a:=a.2;have c: ∀d:UInt8,b8.kind.toNat=d.toNat->b8.kind=d:=λd b=>a5G.1 b;split at a
 .rename_i b;exact absurd (c 1 b) h
 split at a
 .rename_i b;exact absurd (c 2 b) k
 split at a
 .rename_i b;exact b.imp (c 3) (c 4)
 .cases a
theorem rk (d:cO e X) (y:e<900) (o:cK b8.row):cO (e+1) (ed X b8).2:=by
 have c:=d.le (show e<=e+1 by omega);unfold ed;by_cases p:ea b8=false
 .rw[if_pos p];exact c
 rw[if_neg p];have z:ea b8=true:=by cases E:ea b8<;>simp_all
 by_cases c1:b8.kind=1
 .rw[if_pos c1];have r:=zS z c1;have h:=add_eq d a9p r;by_cases c2:bZ X b8.table<X.length
  .rw[if_pos c2];exact c
  rw[if_neg c2]at h|-;by_cases aI:7<X.length
  .rw[if_pos aI];exact c
  rw[if_neg aI]at h|-;refine cO.zU (λa b=> ?_) (G8 h);simp only[a5a,a5i]at b;rcases b with b|rfl|b
  .exact c.ok a (a4Z b)
  .exact Gt r
  .exact c.ok a (a5n b)
 rw[if_neg c1];by_cases c2:X.length<=bZ X b8.table
 .rw[if_pos c2];exact c
 rw[if_neg c2];have k:bZ X b8.table<X.length:=a9p;by_cases aI:b8.kind=2
 .rw[if_pos aI];have h:=zT (B:=b8.table) d a9p;rw[if_pos k]at h;exact cO.zU (λa b=>c.ok a (a7S b)) (G4 (d.cat a9p) h)
 rw[if_neg aI];have b:=d.ok _ (vv k);have C:=ti k;generalize X.getD (bZ X b8.table) default=a at*;by_cases aM:b8.row.length≠a.aC.length+1
 .rw[if_pos aM];exact c
 rw[if_neg aM];have D:bN (a.aC.length+1) b8.row:=⟨a9p,o⟩;rw[<-C]at k|-;by_cases bo:b8.kind=4
 .rw[if_pos bo];by_cases bC:b8.row∈a.rows
  .rw[if_pos bC];exact d.set a9p (c:=a.del b8.row) ((b.del bC).1.le a9p) k
  .rw[if_neg bC];exact c
 .rw[if_neg bo];by_cases bC:a.rows.any (λx=>decide (bQ x=bQ b8.row))=true
  .rw[if_pos bC];exact c
  .rw[if_neg bC];refine d.set a9p (c:=a.put b8.row) (b.put y D λx o F=>bC ?_).1 k;simp_all
def kT (a:List Int):Nat:=(bQ a+9223372036854775808).toNat
theorem zV (a:cK q): -9223372036854775808<=bQ q/\bQ q<9223372036854775808:=by
 unfold bQ;rw[a5s];cases b:q[0]? with
 |none=>simp
 |some c=>exact a c (a4O b)
theorem zX (a:cK q):IntKind.u64.wrap (IntKind.u64.wrap (bQ q)+9223372036854775808)=(kT q:Int)/\(kT q:Int)=bQ q+9223372036854775808:=by grind[zV,kT,bQ,Int.toNat_of_nonneg,kx]
def Gu (c d:Own) (a:List Int) (b:U) (k:oD a) (o:cK a):AC Tryz.prog 144 [fS.V c,.J (ad a) d] b λp r=>r=b/\p= .aL [ik 0 (kT a),.v (.bool true)]:=by
 obtain⟨x,y⟩:=zX o;obtain⟨z,C⟩:=k;have E:=bH (q:=a);have F:=mn (q:=a) a9p d;have D:fS.ok a.length=true:=by rw[r3];exact decide_eq_true ⟨z,C⟩
 have h:=λb=>EZ fS c a.length b a9p a9q;rw[D]at h;unfold bQ at x;clear y;refine aO hm Nr ?_;refine bq λG L=> ?_;refine da λP S T V=> ?_;refine bj (h _) ?_;rfl
theorem a2Q (r x y:Own) (a b:List Int) (c:U) (F:oD a) (l:b.length=a.length) (z:cK a) (C:cK b):AC Tryz.prog 76 [fS.V r,.J (ad a) x,.J (ad b) y] c λk o=>o=c/\k= .v (.bool (decide (bQ a<bQ b))):=by
 have T:oD b:=by unfold oD at*;omega
 have gb:=(zX z).2;have V:=(zX C).2;have G:=λc=>Gu r x a c F z;have L:=λc=>Gu r y b c T C;obtain⟨m,n⟩:=F;have q:=bH (q:=a);have s:=bH (q:=b);have W:=mn (q:=a) a9p x;have e:=mn (q:=b) a9p y;have P:a.getD 0 0=bQ a:=rfl;have S:b.getD 0 0=bQ b:=rfl;rw[P]at W;rw[S]at e;have t:kT a<kT b↔bQ a<bQ b:=a9p;have u:kT a=kT b↔bQ a=bQ b:=a9p;have cb:kT a<18446744073709551616/\kT b<18446744073709551616:=by have G:=zV z;have L:=zV C;omega
 clear P S gb V;generalize kT a=d at*;generalize kT b=h at*;generalize bQ a=D at*;generalize bQ b=f at*;have E: ∀p:Nat,p<18446744073709551616->dB [(2,c5.int IntKind.u64)] [R.v (Value.int IntKind.u64 0),R.v (Value.int IntKind.u64 (p:Int))]:=λp v=>by
  simp[dB,c5.tw,c5.fit]
 have w:=E d cb.1;have A:=E h cb.2;clear E;have g:peq (R.agg [R.v (Value.int IntKind.u64 0),R.v (Value.int IntKind.u64 (d:Int))]) (R.agg [R.v (Value.int IntKind.u64 0),R.v (Value.int IntKind.u64 (h:Int))])=decide (d=h):=by grind[peq]
 refine aO hm Ls ?_;refine bq λB H=> ?_;refine bj (G _) ?_;refine da λI K p M=> ?_;refine bj (L _) ?_;refine hp λN O c9 Q X Y=> ?_;have i: ∀c,AC Tryz.prog 145 [ik 0 d,ik 0 h] c λk o=>o=c/\k= .v (.bool (decide (D<f))):=λc=>(a0v 0 d 0 h c).mono λk o j=>⟨j.1,by simp_all⟩;rw[g];refine aH (λD=> ?_) λD=> ?_
 .refine bj (i _) ?_;trivial
 .trivial
theorem a2R (c: ∀a<e,¬bQ q<bQ (O.getD a [])) (b:e<=O.length) (d:e<O.length->bQ q<bQ (O.getD e [])):gS q O=O.take e++q::O.drop e:=by
 induction O generalizing e with
 |nil=>simp at b;subst b;rfl
 |cons h O ih=>
  cases e with
  |zero=>grind[bQ,gS,List.takeWhile_cons,List.dropWhile_cons]
  |succ e=>have o: ¬bQ q<bQ h:=c 0 a9p;have:=ih (λa p=>c (a+1) a9p) (by simpa using b) (λk=>d (by simpa using k));simp_all [gS,a5z,a6d,decide_false,a5w,if_true,a5I,a6C]
theorem a2S (d:List (List Int)) (m:List R) (w C:Own) (G:Nat) (r:U) (g:az isRow d m) (n: ∀L∈d,bN G L) (k1:1<=G) (k2:G<=8) (n1:d.length<=100000):
  AC Tryz.prog 44 [fS.V C,.J m w] r λL P=>r.sub P/\ ∃A k3,az isRow (rj d) A/\L= .J A k3:=by
 have n2:=g.len;have k4: ∀r,AC Tryz.prog 42 [fS.V C,.v (.int .i64 (G:Int))] r λL P=>P=r/\L= .v (.bool true):=λr=>by
  have:=EZ fS C G r a9p a9q;rw[r3,decide_eq_true ⟨k1,k2⟩]at this;exact this
 have n3:(fS.V C).cells= [.v (.int .u8 0),.v (.int .i64 0),.J (ad []) C]:=rfl;refine aO hm KE ?_;refine bq λq k5=> ?_;have B: ∀T,(r.set q (.cells (fS.V C).cells)).sub T->T.read q=some [.v (.int .u8 0),.v (.int .i64 0),.J (ad []) C]:=λT o=>U.af (o _ _ (U.ah _ _ _));have k6:=U.ae (Y:= .cells (fS.V C).cells) (U.a1 (f:=r)) k5;generalize r.set q _=H at*;refine gO [1,2,5] (λk:Nat=> [(6,.v (.int .i64 k))]) (λk=>k<=d.length) (λk=>d.length - k) 0 a9p aU ?_
 .rintro k I K;have k7:=B H U.a1;refine aa ?_;refine aH (λs=> ?_) λs=> ?_
  .have V:d[k]? =some (d.getD k []):=by simp_all
   have M:d[0]? =some (d.getD 0 []):=by grind
   obtain⟨_,k8,i,rfl⟩:=g.get V;obtain⟨_,k9,D,rfl⟩:=g.get M;have l0:=(n _ (a4O V)).len;have n4:=(n _ (a4O M)).len;have n5:=bH (q:=d.getD k []);have n9:=bH (q:=d.getD 0 []);generalize d.getD k []=x at*;generalize d.getD 0 []=b at*;refine aa ?_;have a00:cR 1 (.J m w) (.v (.int .i64 0))=some (.bV [.J (ad b) D]):=by show cR 1 _ (.v (.int .i64 ((0:Nat):Int)))= _;rw[o2,k9];rfl
   refine bj (k4 _) ?_;exact⟨k+1,a9p,rfl,a9p⟩
  .refine ch [1,2] (λb:Nat×List R×Own=> [(7,.v (.int .i64 b.1)),(5,.J b.2.1 b.2.2)]) (λb P=>H.sub P/\b.1<=d.length/\ ∃c,(d.take b.1).foldl (λc x=>gS x c) []=c/\c.length=b.1/\(∀L∈c,bN G L)/\az isRow c b.2.1) (λb=>d.length - b.1) (0,[],.nil) ⟨⟨U.a1,a9p,[],rfl,rfl,a9q,trivial⟩,aU⟩ ?_;rintro⟨k,E,bD⟩ T ⟨j,I,c,W,l1,N,y⟩ K
   dsimp only at I W l1 y|-
   have a01:=y.len;refine aa ?_;refine aH (λs=> ?_) λs=> ?_
   .have V:d[k]? =some (d.getD k []):=by simp_all
    obtain⟨_,k8,i,rfl⟩:=g.get V;have O:=n _ (a4O V);have l0:=O.len;have l2:=O.jU;have Q:=eT (a:=d) (b:= []) (e:=k) a9p;generalize d.getD k []=x at*;have el: ∀a,a<c.length-> ∃D,E[a]? =some (.J (ad (c.getD a [])) D):=λa F=>by
     obtain⟨_,p,D,rfl⟩:=y.get (i:=a) (x:=c.getD a []) (by simp[List.getD,F]);exact⟨D,p⟩
    have l3: ∀a,a<c.length->(c.getD a []).length=G:=λa F=>(N _ (by simp[List.getD,F])).len;have l4: ∀a,a<c.length->cK (c.getD a []):=λa F=>(N _ (by simp[List.getD,F])).jU;refine ch [1,2,5,7] (λb:Nat×List R×Own=> [(9,.v (.int .i64 b.1)),(8,.J b.2.1 b.2.2)]) (λb P=>b.1<=c.length/\(∀X<b.1,¬bQ x<bQ (c.getD X []))/\az isRow (c.take b.1) b.2.1/\bh T P 1 b.2.1 b.2.2) (λb=>c.length - b.1) (0,[],.nil) ⟨⟨a9p,λX o=>by simp at o,trivial,bh.nil U.a1⟩,aU⟩ ?_;rintro⟨a,l,on⟩ l5 ⟨F,Y,z,e⟩ K
    dsimp only at F Y z e|-
    have k7:=B l5 (U.aq j e.sub);have a02:l.length=a:=by rw[z.len,a4L];omega
    have Z: ¬(a<c.length/\ ¬bQ x<bQ (c.getD a []))->gS x c=c.take a++x::c.drop a:=λo=>a2R Y F λl6=>Classical.not_not.1 λS=>o ⟨l6,S⟩;by_cases jS:(a:Int)<(k:Int)
    .obtain⟨D,a03⟩:=el a a9p;have a04:=l3 a a9p;have l7:=l4 a a9p;have l8:=eT (a:=c) (b:= []) (e:=a) a9p;generalize a05:c.getD a []=b at*;refine aa ?_;refine bj (a2Q C i D x b _ (by unfold oD;omega) a9p l2 l7) ?_;refine aH (λc2=> ?_) λc2=> ?_
     .refine jM (λj9 f=> ?_) (d:=λp h=>by rw[a4X]at h;subst h;rfl);refine dp (e.mono (U.ae U.a1 f)) (z.cells λ_ _=>isRow.cells) (λp h=>by rw[a4X]at h;subst h;rfl) a9r a9r λt k0 S=> ?_;refine aa ?_;refine⟨(a+1,l++ [.J (ad b) D],t),⟨by simp only;omega,?_,?_,S⟩,⟨rfl,rfl⟩,by simp only;omega⟩;grind
      .simp only[l8];exact z.snoc ⟨_,rfl⟩
     .have p:=Z (by simpa using λ_=>c2);refine jM (λj9 f=> ?_) (d:=λp h=>by rw[a4X]at h;subst h;rfl);refine dp (e.mono (U.ae U.a1 f)) (z.cells λ_ _=>isRow.cells) (λp h=>by rw[a4X]at h;subst h;rfl) a9r a9r λt k0 S=> ?_;have l9:dN 1 (.J E bD) (some (.v (.int .i64 (a:Int)))) none=some (.J (E.drop a) .any):=p9 a9p (y.cells λ_ _=>isRow.cells);refine aa ?_;refine dp S (λp h=>by rcases a5a.1 h with o|o;exact z.cells (λ_ _=>isRow.cells) p o;rw[a4X]at o;subst o;rfl) ((y.drop a).cells λ_ _=>isRow.cells) a9r a9r λu n0 v=> ?_;refine aa ?_;refine⟨(k+1,l++ [.J (ad x) i]++E.drop a,u),⟨U.aq j v.sub,by simp only;omega,_,rfl,?_,?_,?_⟩,⟨rfl,rfl⟩,by simp only;omega⟩;grind;grind
      .simp only[Q,a6N,W,a5O,a7U,p];rw[a8b];exact(z.snoc ⟨_,rfl⟩).append (y.drop a)
    .have p:=Z a9p;refine aa ?_;refine jM (λj9 f=> ?_) (d:=λp h=>by rw[a4X]at h;subst h;rfl);refine dp (e.mono (U.ae U.a1 f)) (z.cells λ_ _=>isRow.cells) (λp h=>by rw[a4X]at h;subst h;rfl) a9r a9r λt k0 S=> ?_;have l9:dN 1 (.J E bD) (some (.v (.int .i64 (a:Int)))) none=some (.J (E.drop a) .any):=p9 a9p (y.cells λ_ _=>isRow.cells);refine aa ?_;refine dp S (λp h=>by rcases a5a.1 h with o|o;exact z.cells (λ_ _=>isRow.cells) p o;rw[a4X]at o;subst o;rfl) ((y.drop a).cells λ_ _=>isRow.cells) a9r a9r λu n0 v=> ?_;refine aa ?_;refine⟨(k+1,l++ [.J (ad x) i]++E.drop a,u),⟨U.aq j v.sub,by simp only;omega,_,rfl,?_,?_,?_⟩,⟨rfl,rfl⟩,by simp only;omega⟩;grind;grind
     .simp only[Q,a6N,W,a5O,a7U,p];rw[a8b];exact(z.snoc ⟨_,rfl⟩).append (y.drop a)
   .obtain rfl:k=d.length:=a9p;rw[a5f]at W;refine⟨U.aq k6 j,E,bD,by rw[rj,W];exact y,rfl⟩
def a2T {a:Nat->Bool}:(List.range (e+1)).all a=(a 0&&(List.range e).all λb=>a (b+1)):=by rw[a8Q,List.all_cons,a9m];rfl
theorem Gv (b:List UInt8): ∀(c a:Nat),b.length<c+a->lv ⟨b.toArray⟩ c a=(List.range (b.length - a)).all λk=>ns (a+k) (b.getD (a+k) 0)
 |0,a,o=>by
  rw[show b.length - a=0 by omega];rfl
 |c+1,a,o=>by
  have p:(⟨b.toArray⟩:ByteArray).size=b.length:=rfl;rw[lv,p];by_cases d:a<b.length
  .rw[if_pos d];obtain⟨h,hm⟩: ∃h,b.length - a=h+1:=⟨b.length - a - 1,a9p⟩;rw[hm,a2T,a6x];have r:b.getD a 0=b[a]:=by simp[List.getD,d]
   rw[r];by_cases cv:b[a].toNat<128
   .rw[EK b a d cv]
    dsimp only
    rw[Gv b c (a+1) a9p,show b.length -(a+1)=h by omega];have x:fR a (b[a].toNat:Int)=ns a b[a]:=by unfold fR ns;grind
    grind
   grind[decode_high,fR,Utf8.decode,decide_eq_false,ns]
  simp_all
theorem Gw (a:List UInt8):nt a=jX a:=by unfold nt jX;rw[Gv a (a.length+1) 0 a9p];grind
theorem a2U {a:List (List UInt8)} (b:e<a.length):lx a e=mj a e:=by unfold lx mj;rw[Gw];congr 2;rw[a7v];simp only[a4W,a5Z,a6l,decide_eq_false_iff_not];grind[hm,List.getElem_of_mem,List.length_take,List.getD,List.mem_iff_getElem]
theorem a2V (a:List (List UInt8)):(List.range a.length).all (lx a)=(List.range a.length).all (mj a):=by rw[a7v];grind[List.all_eq_true,a2U]
theorem a2W (a:cp):oB a=ea a:=by
 unfold oB ea yj nr;rw[Gw,a2V];congr 1;by_cases b:a.kind.toNat=1
 .rw[if_pos b,if_pos b,Bool.and_assoc];grind
 rw[if_neg b,if_neg b];by_cases c:a.kind.toNat=2;simp_all;grind
def ee (c:Nat) (d h:U):Prop:= ∀a b,a≠c->d a=some b->h a=some b
theorem ee.of {s:U} (a:s.sub f):ee e s f:=λb c _ d=>a b c d
theorem ee.trans (d:ee e f t) (h:ee e t e7):ee e f e7:=λa b c k=>h a b c (d a b c k)
theorem ee.set {a:Nat}{b c:U}{h:bp} (k:ee a b c):ee a b (c.set a h):=λo p d r=>by rw[U.an _ _ d];exact k o p d r
def fs (a:List R) (b:Nat) (d:R) (c:Nat):List R:=if c<=b then a.take c else(a.take b++d::a.drop b).take (c+1)
def a2X (b:e<i) (a:g[e]? =some b3):fs g i n (e+1)=fs g i n e++ [b3]:=by unfold fs;rw[if_pos a9p,if_pos a9p];obtain⟨c,rfl⟩:=a4P.1 a;simp
theorem a2Y (a:g[e]? =some b3):fs g e n (e+1)=fs g e n e++ [n]++ [b3]:=by unfold fs;obtain⟨b,rfl⟩:=a4P.1 a;rw[if_neg a9p,if_pos a9p,a5c b];grind
theorem a2Z (b:e<i) (a:g[i]? =some b3):fs g e n (i+1)=fs g e n i++ [b3]:=by unfold fs;obtain⟨c,rfl⟩:=a4P.1 a;rw[if_neg a9p,if_neg a9p];have d:(g.take e++n::g.drop e).length=g.length+1:=a9r;rw[a5V (show i+1<(g.take e++n::g.drop e).length by omega)];congr 2;grind
def a3a (a:e<=g.length):(if e<g.length then fs g e n g.length else fs g e n g.length++ [n])=g.take e++n::g.drop e:=by
 split
 .unfold fs;rw[if_neg a9p,a4I a9r]
 .obtain rfl:e=g.length:=a9p;unfold fs;rw[if_pos a9p];simp
def a3b (a:az (gK f) X g) (h:n.cells.length=1):aN 1 (fs g e n i):=λc b=>by
 have d:=zO a;unfold fs at b;split at b
 .exact d c (a4Z b)
 .have:=a4Z b;rcases a5a.1 this with a|a
  .exact d c (a4Z a)
  .rcases a5i.1 a with rfl|a
   .exact h
   .exact d c (a5n a)
theorem a3c:(fs g i n e).length<=e+1:=by unfold fs;grind
def a3d: ∀a<jw X B,bY B (X.getD a default).name=false:=by
 unfold jw
 induction X with
 |nil=>intro a b;simp at b
 |cons d X ih=>
  intro a b;rw[a5z]at b;cases c:bY B d.name with
  |true=>simp[c]at b
  |false=>
   simp only[c,a5w,if_true,a4M]at b;cases a with
   |zero=>simpa using c
   |succ a=>simpa using ih a a9p
def a3e:jw X B<=X.length:=(List.takeWhile_sublist _).length_le
theorem a3f (a:jw X B<X.length):bY B (X.getD (jw X B) default).name=true:=by
 induction X with
 |nil=>simp at a
 |cons b X ih=>
  unfold jw at a|-;rw[a5z]at a|-;cases c:bY B b.name with
  |true=>simp[c]
  |false=>simp_all [a5w,if_true,a4M,jw]
theorem a3g (a:List aS) (b:List UInt8):(bZ a b<a.length->pQ a b=(bZ a b:Int))/\(a.length<=bZ a b->pQ a b= -1):=by simp_all [pQ,if_pos,if_neg]
def a3h (a:UInt8) (b:Int):ja BinOp.eql (ak a) (R.v (Value.int IntKind.u8 b))=some (.v (.bool (decide ((a.toNat:Int)=b)))):=by simp only[ak,rY];rfl
theorem a3i (a:g[e]? =some n) (b:e≠i):(g.take (e+1)).eraseIdx i=(g.take e).eraseIdx i++ [n]:=by obtain⟨c,rfl⟩:=a4P.1 a;grind[List.take_succ_eq_append_getElem,Nat.lt_or_ge,List.eraseIdx_append_of_lt_length,List.length_take,List.eraseIdx_of_length_le]
theorem a3j:(g.take (e+1)).eraseIdx e=(g.take e).eraseIdx e:=by grind[List.eraseIdx_eq_take_drop_succ,List.drop_eq_nil_of_le,List.length_take,Nat.min_eq_left,Nat.min_self]
variable{b0:Type}
def az.erase {b:b0->R->Prop}{c:List b0} (a:Nat) (d:az b c g):az b (c.eraseIdx a) (g.eraseIdx a):=by rw[a6X,a6X];exact(d.take a).append (d.drop (a+1))
def vw (a:f e=some (.cells [n])) (b:az (gK f) X g):fE (f.set e (.cells [.J g N])) e X:=
 ⟨g,N,U.ah _ _ _,b.mono λ_ _ c=>c.gJ (gI.set a rfl)⟩
def Gx {a:List (List UInt8)} (b:f e=some (.cells [bd B,.J (bE a) N,.J [] .nil,.v (.pointer none),.v (.pointer none)])):gK f ⟨B,a,[],.nil,none⟩ (.ptr e 0):=⟨e,N,[],.nil,_,_,rfl,b,trivial,rfl,rfl⟩
theorem a3k (a:az (gK f) X g):bM t 1 (.J g N)=some (g.length,g):=by
 have p: ∀b∈g,b.cells= [b]:=λb d=>by
  obtain⟨h,k,rfl⟩:=a5y d;have r:=a.len;obtain⟨o,c,x,_,_,_,_,_,rfl,_⟩:=a.get (a4H (show h<X.length by omega));rw[a4H k]at c;rw[a4G c];rfl
 have y:flat g=g:=by
  unfold flat;clear a
  induction g with
  |nil=>rfl
  |cons o g ih=>simp_all
 simp_all [bM,if_pos,a4W,decide_eq_true]
def ke (a:Nat) (p c:U) (r:List aS):Prop:= ∃b d,az (gK b) r d/\(∃x,b a=some (.cells [x]))/\ee a p b/\ee a b c/\
 ((∃y,c a=some (.cells [.J d y]))\/ ∃h k z o,b h=none/\c a=some (.cells [.al h k z 1])/\c h=some (.cells o)/\k<=o.length/\dK 1 k o=d)
theorem ke.of {s:U}{ds:List aS} (a:fE f e ds) (c:ee e s f):ke e s f ds:=by obtain⟨d,h,b,k⟩:=a;exact⟨f,d,k,⟨_,b⟩,c,λ_ _ _ a=>a,.inl ⟨h,b⟩⟩
theorem a3l (O:U) (A a74:Nat) (k:List aS) (c:fE O A k) (a81:cO a74 k) (b51:a74<900) (x:cf) (a83:x.d.Fit) (Z:cK x.d.row):
  AC Tryz.prog 21 [.ptr A 0,x.V] O λy q=>ke A O q (ed k x.d).2/\y= .v (.int .i64 (ed k x.d).1):=by
 have h:=(ed.eq_1 k x.d).symm;generalize ed k x.d=b14 at*;have j9:=λO=>ZC x a83 O;rw[a2W]at j9;have a84:=a81.dH;obtain⟨E,a18,a86,a88⟩:=c;have a01:=a88.len;have a89:x.V= .agg [ak x.d.kind,bd x.d.table,.J (bE x.d.aC) x.gx,.J (ad x.d.row) x.dn]:=rfl;rw[a89]at j9|-;clear a89;obtain⟨b52,b53,b54,b55⟩:=a83;generalize a19:x.d.kind=V at*;generalize b56:x.d.table=G at*;generalize b57:x.d.aC=l4 at*;generalize b58:x.d.row=z at*;refine aO hm K6 ?_;refine bq λa02 a27=> ?_;have W:=U.ae (Y:= .cells [ak V,bd G,.J (bE l4) x.gx,.J (ad z) x.dn]) (U.a1 (f:=O)) a27;have aI:=U.ah O a02 (.cells [ak V,bd G,.J (bE l4) x.gx,.J (ad z) x.dn]);have b59:A≠a02:=by rintro rfl;rw[a86]at a27;cases a27
 generalize O.set a02 _=e at*;have F:=W _ _ a86;have S:az (gK e) k E:=a88.mono λ_ _ c=>c.sub W;have a90:=a2I e A k ⟨E,a18,F,S⟩ G a9p;have m:=U.af aI;have eL:=U.af F;obtain⟨a92,b15⟩:=a3g k G;have k0:fE e A k:=⟨E,a18,F,S⟩;cases cv:ea x.d with
 |false=>rw[cv]at j9;rw[if_pos cv]at h;refine bj (j9 e) ?_;exact⟨_,U.a1,ke.of (by rw[<-h];exact k0) (ee.of W),by rw[<-h]⟩
 |true=>
  rw[cv]at j9;rw[if_neg (by rw[cv];simp)]at h;refine bj (j9 e) ?_;generalize pQ k G=b16 at*;refine bj a90 ?_;clear j9 a90;refine aH (λa94=> ?_) λa94=> ?_
  .have a03:V=1:=a5G.1 (by grind);rw[if_pos a03]at h;refine aH (λs=> ?_) λs=> ?_
   .rw[if_pos a9p]at h;exact⟨_,U.a1,ke.of (by rw[<-h];exact k0) (ee.of W),by rw[<-h]⟩
   rw[if_neg a9p]at h;refine aH (λc2=> ?_) λc2=> ?_
   .rw[if_pos a9p]at h;exact⟨_,U.a1,ke.of (by rw[<-h];exact k0) (ee.of W),by rw[<-h]⟩
   rw[if_neg a9p]at h;have b60:=a3e (X:=k) (B:=G);have b17:=a3d (X:=k) (B:=G);have b18:=a3f (X:=k) (B:=G);generalize jw k G=d at*;refine cI U.a1 (by simp[aN]) λb61 b62 a95=> ?_;refine aa ?_;refine dp (g:= []) a95 (λ_ c=>by cases c) th (by rw[a4R,hC];omega) (by rw[a4R,hC];omega) λa29 a30 l5=> ?_;rw[a5b]at l5|-;have m:=U.af (l5.sub _ _ aI);refine aa ?_;refine aP λo Q=> ?_;have k1:(a30.set o (.cells (R.agg [bd G,.J (bE l4) a29,.J [] .nil,.v (.pointer none),.v (.pointer none)]).cells)) o=some (.cells [bd G,.J (bE l4) a29,.J [] .nil,.v (.pointer none),.v (.pointer none)]):=U.ah _ _ _;have k2:=U.aq l5.sub (U.ae (Y:= .cells (R.agg [bd G,.J (bE l4) a29,.J [] .nil,.v (.pointer none),.v (.pointer none)]).cells) (U.a1 (f:=a30)) Q);have b63:A≠o:=by rintro rfl;rw[l5.sub _ _ F]at Q;cases Q
   refine aa ?_;have a96:fs E d (.ptr o 0) 0= []:=by unfold fs;rw[if_pos (a5o _)];rfl
   have b19:decide (d<0)=false:=a9q;generalize a30.set o _=b20 at*;clear a95 l5 Q m;refine ch [0,3,8] (λp:Nat×Own=> [(6,.J (fs E d (.ptr o 0) p.1) p.2),(7,.v (.bool (decide (d<p.1)))),(9,.v (.int .i64 (p.1:Int)))]) (λp q=>p.1<=k.length/\bh b20 q 1 (fs E d (.ptr o 0) p.1) p.2) (λp=>k.length - p.1) (0,.nil) ⟨⟨a5o _,by rw[a96];exact bh.nil U.a1⟩,aU⟩ ?_;rintro⟨a,bD⟩ l6 ⟨l7,r⟩ a97
   dsimp only at l7 r|-
   have a98:=a3c (g:=E) (i:=d) (e:=a) (n:= .ptr o 0);have k3:=a3b (e:=d) (i:=a) (n:= .ptr o 0) S rfl;have eL:=U.af (r.sub _ _ (k2 _ _ F));have b64:=U.af (r.sub _ _ k1);clear a96 b19;refine aa ?_;refine aH (λaI=> ?_) λaI=> ?_
   .have k8:a<k.length:=a9p;have k4:k[a]? =some (k.getD a default):=by simp[List.getD,k8]
    obtain⟨_,k9,a34,n,a99,b00,a04,a05,rfl,t,_,_,_⟩:=S.get k4;have B:=U.af (r.sub _ _ (k2 _ _ t));have b01:=(vi G (k.getD a default).name).1;rcases a8x a d with H|H|H
    .have a36:=b17 a H;have P:=a2X (n:= .ptr o 0) H k9;have b21: ¬d<a:=a9p;have l8: ¬d<a+1:=a9p;generalize fs E d (.ptr o 0) a=a06 at*;rw[a36]at b01;refine aa ?_;refine cI U.a1 (by simp[aN,R.cells]) λl0 I f=> ?_;refine aa ?_;refine dp (r.mono f.sub) k3 (by simp[aN,R.cells]) a9r a9r λT L C=> ?_;refine aa ?_;exact⟨(a+1,T),⟨by simp only;omega,by simp only[P];exact C⟩,⟨by simp only[P],by simp[l8],rfl⟩,by simp only;omega⟩
    .subst H;have a36:=b18 k8;have P:=a2Y (n:= .ptr o 0) k9;have b21: ¬a<a:=a9p;generalize fs E a (.ptr o 0) a=a06 at*;rw[a36]at b01;have l8:a<a+1:=a9p;refine aa ?_;refine cI U.a1 (by simp[aN,R.cells]) λl0 I f=> ?_;refine aa ?_;refine dp (r.mono f.sub) k3 (by simp[aN,R.cells]) a9r a9r λT L C=> ?_;have eL:=U.af (C.sub _ _ (k2 _ _ F));refine aa ?_;refine cI U.a1 (by simp[aN,R.cells]) λa38 l9 g=> ?_;refine aa ?_;refine dp (C.mono g.sub) (λD a42=>by rcases a5a.1 a42 with c|c;exact k3 D c;rw[a4X]at c;subst c;rfl) (by simp[aN,R.cells]) a9r a9r λT j C=> ?_;refine aa ?_;exact⟨(a+1,T),⟨by simp only;omega,by simp only[P];exact C⟩,⟨by simp only[P],by simp[l8],rfl⟩,by simp only;omega⟩
    .have P:=a2Z (n:= .ptr o 0) H k9;have l8:d<a+1:=a9p;generalize fs E d (.ptr o 0) a=a06 at*;refine aa ?_;refine cI U.a1 (by simp[aN,R.cells]) λl0 I f=> ?_;refine aa ?_;refine dp (r.mono f.sub) k3 (by simp[aN,R.cells]) a9r a9r λT L C=> ?_;refine aa ?_;exact⟨(a+1,T),⟨by simp only;omega,by simp only[P];exact C⟩,⟨by simp only[P],by simp[l8],rfl⟩,by simp only;omega⟩
   .obtain rfl:a=k.length:=a9p;have a43:=a3a (g:=E) (e:=d) (n:= .ptr o 0) a9p;rw[a01]at a43;have b02:=U.aJ (r.sub _ _ (k2 _ _ F));by_cases H:d<k.length
    .rw[if_pos H]at a43;refine aa ?_;have i:=U.aq k2 r.sub;refine⟨_,U.a1,ke.of ?_ (ee.of (U.aq W i)).set,by rw[<-h]⟩;rw[<-h];exact vw (i _ _ F) (((S.mono λ_ _ c=>c.sub i).take d).append ⟨Gx (r.sub _ _ k1),(S.mono λ_ _ c=>c.sub i).drop d⟩)
    .rw[if_neg H]at a43;refine aa ?_;refine cI U.a1 (by simp[aN,R.cells]) λl0 I f=> ?_;refine aa ?_;refine dp (r.mono f.sub) k3 (by simp[aN,R.cells]) a9r a9r λT L C=> ?_;have b02:=U.aJ (C.sub _ _ (k2 _ _ F));refine aa ?_;have i:=U.aq k2 C.sub;refine⟨_,U.a1,ke.of ?_ (ee.of (U.aq W i)).set,by rw[<-h]⟩;rw[<-h];exact vw (i _ _ F) (((S.mono λ_ _ c=>c.sub i).take d).append ⟨Gx (C.sub _ _ k1),(S.mono λ_ _ c=>c.sub i).drop d⟩)
  .have a03: ¬V=1:=λD=>a94 (by rw[D];rfl);rw[if_neg a03]at h;refine aH (λs=> ?_) λs=> ?_
   .have b22:k.length<=bZ k G:=by omega
    rw[if_pos b22]at h;exact⟨_,U.a1,ke.of (by rw[<-h];exact k0) (ee.of W),by rw[<-h]⟩
   have k8:bZ k G<k.length:=by omega
   obtain rfl:=a92 k8;rw[if_neg a9p]at h;clear a92 b15 s;have b23:=vv k8;generalize bZ k G=d at*;refine aH (λb03=> ?_) λb03=> ?_
   .have a07:V=2:=a5G.1 (by grind);rw[if_pos a07]at h;have b24:([]:List R).eraseIdx d= []:=List.eraseIdx_nil;refine ch [0,3,5] (λp:Nat×Own=> [(10,.J ((E.take p.1).eraseIdx d) p.2),(11,.v (.int .i64 (p.1:Int)))]) (λp q=>p.1<=k.length/\bh e q 1 ((E.take p.1).eraseIdx d) p.2) (λp=>k.length - p.1) (0,.nil) ⟨⟨a5o _,by grind[bh.nil,U.a1]⟩,aU⟩ ?_;clear b24;rintro⟨a,bD⟩ l6 ⟨l7,r⟩ a97
    dsimp only at l7 r|-
    have a98:((E.take a).eraseIdx d).length<=a:=a5H (List.length_eraseIdx_le _ _) (by rw[a4L];omega);have k3:aN 1 ((E.take a).eraseIdx d):=λD a42=>zO S D (a4Z (a7S a42));have eL:=U.af (r.sub _ _ F);refine aa ?_;refine aH (λaI=> ?_) λaI=> ?_
    .have b25:a<k.length:=a9p;have k4:k[a]? =some (k.getD a default):=by simp[List.getD,b25]
     obtain⟨_,k9,a34,n,a99,b00,a04,a05,rfl,t,_,_,_⟩:=S.get k4;by_cases jS:a=d
     .subst jS;have P:=a3j (g:=E) (e:=a);generalize (E.take a).eraseIdx a=a06 at*;refine aa ?_;exact⟨(a+1,bD),⟨by simp only;omega,by simp only[P];exact r⟩,⟨by simp only[P],rfl⟩,by simp only;omega⟩
     .have P:=a3i (i:=d) k9 jS;generalize (E.take a).eraseIdx d=a06 at*;have b65: ¬(a:Int)=(d:Int):=a9p;refine aa ?_;refine cI U.a1 (by simp[aN,R.cells]) λl0 I f=> ?_;refine aa ?_;refine dp (r.mono f.sub) k3 (by simp[aN,R.cells]) a9r a9r λT L C=> ?_;refine aa ?_;exact⟨(a+1,T),⟨by simp only;omega,by simp only[P];exact C⟩,⟨by simp only[P],rfl⟩,by simp only;omega⟩
    .obtain rfl:a=k.length:=a9p;rw[<-a01,a5f]at r|-;have b02:=U.aJ (r.sub _ _ F);refine aa ?_;have i:=r.sub;refine⟨_,U.a1,ke.of ?_ (ee.of (U.aq W i)).set,by rw[<-h]⟩;rw[<-h];exact vw (i _ _ F) ((S.mono λ_ _ c=>c.sub i).erase d)
   .have a07: ¬V=2:=λD=>b03 (by rw[D];rfl);rw[if_neg a07]at h;have b26:k[d]? =some (k.getD d default):=by simp[List.getD,k8]
    have u:=a81.ok _ b23;obtain⟨_,k9,a34,n,a99,b00,a04,a05,rfl,t,b04,a47,a48⟩:=S.get b26;have B:=U.af t;have b66:=a47.cells;have eQ:=a48.cells;have b67:=u.c;have b27:=λy c=>u.row (q:=y) c;have b68:=u.dH;have b69:=b04.len;generalize b70:k.getD d default=b at*;have b71:=hC (a:=b.aC);have b72:=bH (q:=z);refine aa ?_;refine aH (λs=> ?_) λs=> ?_
    .rw[if_pos a9p]at h;exact⟨_,U.a1,ke.of (by rw[<-h];exact k0) (ee.of W),by rw[<-h]⟩
    rw[if_neg a9p]at h;have n0:z.length=b.aC.length+1:=a9p;have fH:=mn (q:=z) a9p x.dn;rw[show z.getD 0 0=bQ z from rfl]at fH;have b28:decide (z∈([]:List (List Int)))=false:=a9q;refine ch [0,3,5,12] (λp:Nat×List R×Own=> [(13,.J p.2.1 p.2.2),(14,.v (.bool (decide (z∈b.rows.take p.1)))),(15,.v (.int .i64 (p.1:Int)))]) (λp q=>p.1<=b.rows.length/\bh e q 1 p.2.1 p.2.2/\az isRow ((b.rows.take p.1).filter λy=>decide (y≠z)) p.2.1/\(V=3-> ∀y∈b.rows.take p.1,bQ y≠bQ z)) (λp=>b.rows.length - p.1) (0,[],.nil) ⟨⟨a5o _,bh.nil U.a1,trivial,λ_ y c=>by cases c⟩,aU⟩ ?_;clear b28;rintro⟨a,X,bD⟩ l6 ⟨l7,r,l,a08⟩ a97
    dsimp only at l7 r l a08|-
    have B:=U.af (r.sub _ _ t);have m:=U.af (r.sub _ _ aI);have a98:X.length<=a:=by rw[l.len];grind
    refine aa ?_;refine aH (λbo=> ?_) λbo=> ?_
    .have b05:a<b.rows.length:=a9p;have k4:b.rows[a]? =some (b.rows.getD a []):=by simp[List.getD,b05]
     obtain⟨_,P,a09,rfl⟩:=b04.get k4;have b73:=(b27 _ (a4O k4)).len;have n1:=eT (a:=b.rows) (b:= []) (e:=a) b05;have b29:b.rows.getD a []∈b.rows:=a4O k4;generalize b.rows.getD a []=y at*;have b30:=mn (q:=y) a9p a09;rw[show y.getD 0 0=bQ y from rfl]at b30;refine aa ?_;refine aH (λbC=> ?_) λbC=> ?_
     .refine aH (λb06=> ?_) λb06=> ?_
      .have n2:V=3:=a5G.1 (by grind);rw[if_neg (by rw[n2];decide),if_pos (a7G.2 ⟨y,b29,decide_eq_true bC⟩)]at h;exact⟨_,U.a1,ke.of (by rw[<-h];exact k0.sub r.sub) (ee.of (U.aq W r.sub)),by rw[<-h]⟩
      have b74: ¬V=3:=λD=>b06 (by rw[D];rfl);refine bj (nn y z a09 x.dn _ a9p) ?_;refine aH (λcc=> ?_) λa10=> ?_
      .subst cc;exact⟨(a+1,X,bD),⟨by simp only;omega,r,by simp_all,λc=>absurd c id⟩,⟨rfl,by simp[n1],rfl⟩,by simp only;omega⟩
      refine cI U.a1 (by simp[aN,R.cells]) λl0 I f=> ?_;refine aa ?_;refine dp (r.mono f.sub) (l.cells λ_ _=>isRow.cells) (by simp[aN,R.cells]) a9r a9r λT L C=> ?_;refine aa ?_;refine⟨(a+1,X++ [.J (ad y) a09],T),⟨by simp only;omega,C,by simp only[n1,a7R];rw[a8c,if_pos (by simpa using a10),a8O];exact l.snoc ⟨_,rfl⟩,λn2 b07 a52=> ?_⟩,⟨rfl,by grind,rfl⟩,by simp only;omega⟩;exact False.elim n2
     .have a10:y≠z:=λD=>bC (by rw[D]);refine cI U.a1 (by simp[aN,R.cells]) λl0 I f=> ?_;refine aa ?_;refine dp (r.mono f.sub) (l.cells λ_ _=>isRow.cells) (by simp[aN,R.cells]) a9r a9r λT L C=> ?_;refine aa ?_;refine⟨(a+1,X++ [.J (ad y) a09],T),⟨by simp only;omega,C,by simp only[n1,a7R];rw[a8c,if_pos (by simpa using a10),a8O];exact l.snoc ⟨_,rfl⟩,λn2 b07 a52=> ?_⟩,⟨rfl,by simp only[n1,a5a,a4X];congr 2;exact decide_eq_decide.2 ⟨.inl,λc=>c.resolve_right λD=>a10 D.symm⟩,rfl⟩,by simp only;omega⟩;rw[n1]at a52;rcases a5a.1 a52 with c|c
      .exact a08 n2 b07 c
      .obtain rfl:=a4X.1 c;exact bC
    .obtain rfl:a=b.rows.length:=a9p;rw[a5f]at l a08|-;refine aP λo Q=> ?_;have v:=U.bF r.sub Q;have k1:(l6.set o (.cells (R.agg [bd b.name,.J (bE b.aC) n,.J [] .nil,.v (.pointer none),.v (.pointer none)]).cells)) o=some (.cells [bd b.name,.J (bE b.aC) n,.J [] .nil,.v (.pointer none),.v (.pointer none)]):=U.ah _ _ _;have a56:=U.ae (Y:= .cells (R.agg [bd b.name,.J (bE b.aC) n,.J [] .nil,.v (.pointer none),.v (.pointer none)]).cells) (U.a1 (f:=l6)) Q;have b75:a02≠o:=by rintro rfl;rw[aI]at v;cases v
     have b76:a34≠o:=by rintro rfl;rw[t]at v;cases v
     have b77:A≠o:=by rintro rfl;rw[F]at v;cases v
     refine aa ?_;have l1:=U.aq r.sub a56;have b31:=a56;generalize l6.set o _=I at*;clear Q a56;have B:=U.af (l1 _ _ t);have m:=U.af (l1 _ _ aI);have b78:=a3h V 4;refine aa ?_;refine o5 [0,3,5,12,16] (λ_:Unit=> []) (λ_ q=> ∃a11,b14=(0,k.set d a11)/\a11.name=b.name/\gK q a11 (.ptr o 0)/\e.sub q) (λs=> ?_) (λs=> ?_) ?_
     .have a13:V=4:=a5G.1 (by have c:=of_decide_eq_true s;have:(4:UInt8).toNat=4:=rfl;omega);rw[if_pos a13]at h;have aF:=U.aJ k1;refine aa ?_;refine aH (λcc=> ?_) λcc=> ?_
      .rw[if_neg cc]at h;exact⟨_,U.a1,ke.of (by rw[<-h];exact k0.sub l1) (ee.of (U.aq W l1)),by rw[<-h]⟩
      .have b32:=cc;rw[if_pos b32]at h;clear cc;generalize k5:I.set o _=L;have a57:L o=some (.cells [bd b.name,.J (bE b.aC) n,.J X bD,.v (.pointer none),.v (.pointer none)]):=by subst k5;exact U.ah _ _ _
       have K:e.sub L:=by subst k5;exact U.ae l1 v
       clear k5 aF k1;refine ai (ZV (b.aC.length+1) a9p a9p z x.dn n0 b.bK a04 L (a47.mono K) u.dA.fi.ok (by have:=u.dA.cq;omega)) ?_;rintro _ l9 ⟨g,k6,rfl,k7⟩;have n3:=g _ _ a57;have aF:=U.aJ n3;have b33:=k7.cells;have B:=U.af (g _ _ (K _ _ t));have m:=U.af (g _ _ (K _ _ aI));refine aa ?_;generalize M:l9.set o _=j;have a61:j o=some (.cells [bd b.name,.J (bE b.aC) n,.J X bD,k6,.v (.pointer none)]):=by subst M;exact U.ah _ _ _
       have n4:e.sub j:=by subst M;exact U.ae (U.aq K g) v
       have a62:dR j (lz (b.aC.length+1) z b.bK).1 k6:=by subst M;exact k7.gJ (n:=5) a9t (gI.set n3 rfl)
       clear M aF B m;refine ai (a2D (e:=b.aC.length+1) a9p a9p z x.dn ⟨n0,Z⟩ b.cj a05 j (a48.fG (U.o3 n4)) u.go) ?_;rintro _ l2 ⟨N,a63,b34,rfl,n5⟩;have w:=N _ _ a61;have aF:=U.aJ w;have b35:=n5.cells;refine aa ?_;exact⟨(),b.del z,h.symm,rfl,⟨o,n,X,bD,k6,a63,rfl,U.ah _ _ _,l,(a62.mono N).gJ (n:=5) a9t (gI.set w rfl),n5.gJ (n:=5) a9t (gI.set w rfl)⟩,U.aq n4 N⟩
     .have a13: ¬V=4:=λD=>(of_decide_eq_false s) (by rw[D];rfl);rw[if_neg a13]at h;have b36:V=3:=by have:=tj cv (by rw[a19];exact a03) (by rw[a19];exact a07);rw[a19]at this;exact this.resolve_right a13
      have b08:=a08 b36;rw[if_neg (λc=>by
       obtain⟨y,Z,D⟩:=a7G.1 c;exact b08 y Z (of_decide_eq_true D))]at h
      have b37:b.rows.filter (λy=>decide (y≠z))=b.rows:=a8l.2 λy Z=>decide_eq_true λD=>b08 y Z (by rw[D]);rw[b37]at l;have b79:=l.len;refine aa ?_;refine cI U.a1 (by simp[aN]) λT L C=> ?_;have m:=U.af (C.sub _ _ (l1 _ _ aI));refine aa ?_;refine dp (g:= []) C (λ_ c=>by cases c) (by simp[aN,ad,R.cells]) (by simp[bH];omega) (by simp[bH];omega) λa38 l9 g=> ?_;rw[a5b];refine aa ?_;refine cI U.a1 (by simp[aN,R.cells]) λb80 j a84=> ?_;refine aa ?_;have b09:I.sub j:=U.aq g.sub a84.sub;refine qA (r.mono (U.aq b31 b09)) (l.cells λ_ _=>isRow.cells) (by simp[aN,R.cells]) a9r a9r λb38 l2 N b39=> ?_;have w:=b39 _ _ (b09 _ _ k1);have b40:az isRow (b.rows++ [z]) (X++ [.J (ad z) a38]):=l.snoc ⟨a38,rfl⟩;have b41: ∀y∈b.rows++ [z],bN (b.aC.length+1) y:=λy c=>by
       rcases a5a.1 c with c|c
       .exact u.row c
       .obtain rfl:=a4X.1 c;exact⟨n0,Z⟩
      refine aa ?_;refine ai (a2S (b.rows++ [z]) _ b38 .nil (b.aC.length+1) l2 b40 b41 a9p a9p a9r) ?_;rintro _ a65 ⟨b10,a68,a69,b42,rfl⟩;have b11:=b10 _ _ w;have aF:=U.aJ b11;have a71:e.sub a65:=U.aq N.sub b10;have B:=U.af (a71 _ _ t);have m:=U.af (a71 _ _ aI);refine aa ?_;generalize k5:a65.set o _=L;have a57:L o=some (.cells [bd b.name,.J (bE b.aC) n,.J a68 a69,.v (.pointer none),.v (.pointer none)]):=by subst k5;exact U.ah _ _ _
      have K:e.sub L:=by subst k5;exact U.ae a71 v
      clear k5 aF B m w b11;refine ai (yw (b.aC.length+1) a9p a9p z x.dn n0 b.bK a04 0 L L (a47.mono K) U.a1 u.dA.fi.ok (by have:=u.dA.cq;omega)) ?_;rintro _ l9 ⟨g,k6,rfl,k7⟩;have k7:=k7.mono qW;have n3:=g _ _ a57;have aF:=U.aJ n3;have b33:=k7.cells;have B:=U.af (g _ _ (K _ _ t));have m:=U.af (g _ _ (K _ _ aI));refine aa ?_;generalize M:l9.set o _=j;have a61:j o=some (.cells [bd b.name,.J (bE b.aC) n,.J a68 a69,k6,.v (.pointer none)]):=by subst M;exact U.ah _ _ _
      have n4:e.sub j:=by subst M;exact U.ae (U.aq K g) v
      have a62:dR j (dd (b.aC.length+1) z b.bK 0).1 k6:=by subst M;exact k7.gJ (n:=5) a9t (gI.set n3 rfl)
      clear M aF B m;refine ai (Zk (e:=b.aC.length+1) a9p a9p z x.dn ⟨n0,Z⟩ b.cj a05 j (a48.fG (U.o3 n4)) u.go) ?_;rintro _ l2 ⟨N,a63,b34,rfl,n5⟩;have w:=N _ _ a61;have aF:=U.aJ w;have b35:=n5.cells;refine aa ?_;exact⟨(),b.put z,h.symm,rfl,⟨o,n,a68,a69,k6,a63,rfl,U.ah _ _ _,b42,(a62.mono N).gJ (n:=5) a9t (gI.set w rfl),n5.gJ (n:=5) a9t (gI.set w rfl)⟩,U.aq n4 N⟩
     .rintro _ l2 ⟨a11,b81,b82,b43,l3⟩ b83;have eL:=U.af (l3 _ _ F);refine aa ?_;rw[nW];refine aa ?_;have b44:=a3k (t:=l2) (N:=a18) S;refine fj (ar.zero U.a1) a9p b44 a9p a9r a9r λb16 a65 a14=> ?_;rw[a5b]at a14;obtain⟨Y,n9,a00,a15,rfl,a16,b45,b46,b12,hm,b84,_⟩:=a14.al (λD=>by rw[D]at a01;simp at a01;omega);rw[a5t]at b46 b12 hm;have b85:cR 1 (.al Y n9 a00 1) (.v (.int .i64 (d:Int)))=some (.ptr Y d):=by have:=iZ (e:=1) (i:=Y) (v:=n9) (M:=a00) (e2:= .i64) (b1:=(d:Int)) a9p a9p;simpa using this
      have b86:=U.aJ b45;have b47:=a14.1 _ _ (l3 _ _ F);have b48:A≠Y:=by rintro rfl;rw[l3 _ _ F]at a16;cases a16
      have b87:=U.aJ b47;have b88:(R.al Y n9 a00 1).cells= [.al Y n9 a00 1]:=rfl;have b89:d+1<=a15.length:=a9p;refine aa ?_;have b13:putAt a15 d [R.ptr o 0]=a15.set d (.ptr o 0):=by rw[a6b,if_pos a9p];unfold putAt;rw[a4U];rfl
      refine⟨_,U.a1,l2,E.set d (.ptr o 0),az.set d (S.mono λ_ _ c=>c.sub l3) b43,⟨_,l3 _ _ F⟩,ee.of (U.aq W l3),λb49 b90 b50 a73=> ?_,.inr ⟨Y,n9,a00,putAt a15 d [.ptr o 0],a16,U.ah _ _ _,?_,?_,?_⟩⟩
      .have:b49≠Y:=by rintro rfl;rw[a16]at a73;cases a73
       rw[U.an _ _ b50,U.an _ _ this];exact a14.1 _ _ a73
      .rw[U.an _ _ b48.symm,U.ah]
      .rw[b13,a7k];omega
      .rw[b13,ky,List.take_set,b12]
def Gy (p:U) (a r:Nat) (d:List aS) (b:fE p a d) (j:cO r d) (l:r<900) (c:cf) (m:c.d.Fit) (n:cK c.d.row):
  AC Tryz.prog 21 [.ptr a 0,c.V] p λP h=>fE h a (ed d c.d).2/\ee a p h/\P= .v (.int .i64 (ed d c.d).1):=
 (a3l p a r d b j l c m n).view λP h b=>by
  obtain⟨⟨x,S,T,⟨v,V⟩,W,y,z⟩,rfl⟩:=b;have e: ∀C,ee a x C->gI 1 x C:=λC D k E o q=>D k _ (by rintro rfl;rw[V]at o;obtain rfl:=bp.cells.inj (a4G o);exact q rfl) o;rcases z with ⟨F,z⟩|⟨k,s,w,E,G,t,o,hm,D⟩
  .exact⟨_,h,View.refl,⟨S,F,z,T.mono λ_ _ b=>b.gJ (e _ y)⟩,W.trans y,rfl⟩
  .have u:a≠k:=by rintro rfl;rw[V]at G;cases G
   have f:ee a x ((h.set k (.ro E)).set a (.cells ([]++ .J (dK 1 s E) .any:: []))):=λg F i L=>by
    have:g≠k:=by rintro rfl;rw[G]at L;cases L
    rw[U.an _ _ i,U.an _ _ this];exact y g F i L
   exact⟨_,_,View.obj (A:= []) (e1:= []) t o a9p u,⟨S,.any,by rw[U.ah,D];rfl,T.mono λ_ _ b=>b.gJ (e _ f)⟩,W.trans f,rfl⟩
variable{a8:aD}{w j2:ay}
def jn.le (d:e<=8) (b:jn e a8 w) (c:a8.size<=1048576):w.hv/\w.sum.length=32/\w.cE:=by have a:=b.kK c;have h:=a.oc;have k:=a.od;have o:=a.oe;exact⟨⟨a9p,a9p,a9p,a.nc,a.live,a.nd,a.size⟩,b.sum,⟨a9p,a9p,a9p⟩⟩
theorem zY {s:Nat} (e:1<=s) (r:s<=8): ∀(i:aD) (x:R) (a:U),dR a i x->i.c8 s->i.size<=1048576->AC Tryz.prog 60 [x] a λd t=>a.sub t/\ ∃y h z,d= .agg (ab (bm i) y h z)
 | .nil,x,a,u,_,_=>by
  obtain rfl:x= .v (.pointer none):=u;have eQ:=iq aA .nil .nil .nil bk;have v:putAt (ab aA .nil .nil .nil) 0 (ab aA .nil .nil .nil)=ab aA .nil .nil .nil:=cF bk bk;refine aO hm Bg ?_;refine bq λk G=> ?_;rw[cr];exact⟨.nil,.nil,.nil,by rw[(aX bk).t37];rfl⟩
 | .node d o b c,x,a,u,L,K=>by
  obtain⟨M,k6,k7,k8,rfl,p,j,l⟩:=u;have k9:=K;simp only[aD.size]at k9;have l0:=zY e r b k7;have l1:=zY e r c k8;have w:=(fh e r L.a a9p).le r a9p;have cb:=(fh e r L.b a9p).le r a9p;have N:=fh e r L K;have n4:=N.size;have n5:=j.cells;have eQ:=l.cells;have m:=U.af p;have l2: ∀C:U,a.sub C->AC Tryz.prog 114 [.ptr M 0] C λl3 t=>C.sub t/\ ∃P S f g,l3=gP (ck (d,o) (bm b) (bm c)) (.J P f) (.J S g)/\az dh [(d,o)] P/\az bs [bm b,bm c] S:=by
   intro C A;have p:=A _ _ p;have j:=j.mono A;have l:=l.mono A;have m:=U.af p;refine aO hm MC ?_;refine bq λk G=> ?_;have n9:M≠k:=by rintro rfl;rw[p]at G;cases G
   have T:=U.ae (Y:= .cells [.v (.int .u8 0),.J [] .nil,.J [] .nil]) (U.a1 (f:=C)) G;have l4:=U.ah C k (.cells [.v (.int .u8 0),.J [] .nil,.J [] .nil]);generalize C.set k _=l5 at*;have m:=U.af (T _ _ p);refine aa ?_;refine(rR (cI U.a1 (by simp[aN,R.cells]) λ_ _ _=>trivial)).mpr ?_;refine aa ?_;refine ai (l0 l5 (j.mono T) L.a a9p) ?_;rintro _ O ⟨V,D,E,F,rfl⟩;have n:=U.aq T V;have m:=U.af (n _ _ p);have l6:=(iq (bm b) D E F w.2.1).1;refine aa ?_;refine(rR (cI U.a1 (by simp[aN,R.cells]) λ_ _ _=>trivial)).mpr ?_;refine aa ?_;refine ai (l1 O (l.mono n) L.b a9p) ?_;rintro _ a00 ⟨Q,cg,c9,cW,rfl⟩;have X:=U.aq n Q;have l7:=(iq (bm c) cg c9 cW cb.2.1).1;have m:=U.af (X _ _ p);refine aa ?_;have Y:aN 37 [R.agg (ab (bm b) D E F),.agg (ab (bm c) cg c9 cW)]:=λq Z=>by
    simp only[a5i,a6n,or_false]at Z;rcases Z with rfl|rfl
    .exact l6
    .exact l7
   refine(rR (cI U.a1 Y λ_ _ _=>trivial)).mpr ?_;refine aa ?_;refine cI U.a1 (by simp[aN,R.cells]) λh j9 W=> ?_;refine aa ?_;refine cI U.a1 Y λl8 a01 k0=> ?_;have a02:=U.aJ (k0.sub _ _ (W.sub _ _ (Q _ _ (V _ _ l4))));refine aa ?_;exact⟨U.aq X (U.aq W.sub k0.sub),_,_,h,l8,rfl,⟨⟨k6,rfl⟩,trivial⟩,⟨w.2.1,w.2.2,D,E,F,rfl⟩,⟨cb.2.1,cb.2.2,cg,c9,cW,rfl⟩,trivial⟩
  have k1:=λP S f g a B H=>Gp (ck (d,o) (bm b) (bm c)) P S f g a B H (by simp[ck]) (by simp[ck]) (λx l9=>by
   obtain rfl:x=(d,o):=by simpa[ck] using l9
   have:=L.r.len;dsimp only;omega) (λk2 n0=>by
   have:k2=bm b\/k2=bm c:=by simpa[ck] using n0
   grind) (by show(bm (.node d o b c)).size<= _;omega) (λq=>by cases q) (λq=>by cases q)
  have n1:eV (ck (d,o) (bm b) (bm c))=bm (.node d o b c):=rfl;rw[n1]at k1;have k3:=N.sum;generalize bm (.node d o b c)=I at*;have k4:=λy h z=>iq I y h z k3;have v: ∀y h z,putAt (ab aA .nil .nil .nil) 0 (ab I y h z)=ab I y h z:=λy h z=>cF bk k3;have a03:=iq aA .nil .nil .nil bk;refine aO hm Bg ?_;refine bq λk G=> ?_;rw[cr];have T:=U.ae (Y:= .cells (ab aA .nil .nil .nil)) (U.a1 (f:=a)) G;refine ai (l2 _ T) ?_;rintro _ j9 ⟨W,P,S,f,g,rfl,B,H⟩;refine aa ?_;refine ai (k1 P S f g j9 B H) ?_;rintro _ O ⟨V,D,E,F,rfl⟩;have a04:=U.aJ (V _ _ (W _ _ (U.ah a k (.cells (ab aA .nil .nil .nil)))));refine aa ?_;have n:=U.aq T (U.aq W V);have aI:=V _ _ (W _ _ (U.ah a k (.cells (ab aA .nil .nil .nil))));refine aP λn2 k5=> ?_;have n3:k≠n2:=by rintro rfl;rw[aI]at k5;cases k5
  have a05:=n3.symm;have v:=v D E F;have k4:=k4 D E F;refine aa ?_;exact⟨D,E,F,rfl⟩
def a3m (Q:e<=8) (d:a6.T 0) (E:R) (c:U) (l:bt c 0 d E) (m:eZ e 0 d):
  AC Tryz.prog 115 [E] c λx h=>c.sub h/\ ∃F G y n,x=gP (dz 0 d) (.J F y) (.J G n)/\az dh (dz 0 d).rows F/\az bs (dz 0 d).kids G:=by
 obtain⟨b,rfl⟩:=a6.hZ d;obtain⟨X,q,Y,Z,rfl,L,p⟩:=l;have p:az isRow b q:=p;obtain⟨s,t,_⟩:=m.wf;rw[a6.hy]at s t;have j9:=p.len;have k0:=U.af L;refine aO hm Bn ?_;refine bq λz u=> ?_;refine da λP v w k1=> ?_;have S:=U.ah c z (.cells [.v (.int .u8 0),.J [] .nil,.J [] .nil]);have T:=U.ae (Y:= .cells [.v (.int .u8 0),.J [] .nil,.J [] .nil]) (U.a1 (f:=c)) u;have C:(c.set z (.cells [.v (.int .u8 0),.J [] .nil,.J [] .nil])) P=none:=by rw[U.an _ _ w];exact v
 generalize c.set z _=A at*;have B:=T _ _ L;refine ch [0,2,3] (λa:Nat=> [(4,.v (.int .i64 (a:Int)))]) (λa h=>a<=b.length/\ ∃aj r,h P=some (.cells [.v (.int .u8 2),.J aj r,.J [] .nil])/\bh A h 2 aj r/\az dh ((b.take a).map λx=>(x,true)) aj) (λa=>b.length - a) 0 ⟨⟨a5o _,[],.nil,U.ah _ _ _,bh.nil (U.ae (U.ae U.a1 C) C),trivial⟩,aU⟩ ?_;rintro a H ⟨k2,aj,r,V,k,o⟩ I;have k3:=U.af (k.sub _ _ B);have k4:=U.af V;have W:=o.len;rw[a4T,a4L]at W;refine aa ?_;refine aH (λf=> ?_) λf=> ?_
 .have D:a<b.length:=a9p;have K:b[a]? =some (b.getD a []):=by simp[List.getD,D]
  obtain⟨_,k5,y,rfl⟩:=p.get K;have M:=eT (a:=b) (b:= []) (e:=a) D;generalize b.getD a []=k6 at*;refine aa ?_;refine cI U.a1 (by simp[aN,R.cells]) λk7 k8 g=> ?_;refine aa ?_;refine qA (k.mono g.sub) (o.cells λ_ _=>dh.cells) (by simp[aN,R.cells]) a9r a9r λk9 l0 N O=> ?_;have i:=O _ _ (g.sub _ _ V);have aF:=U.aJ i;refine aa ?_;refine⟨a+1,⟨D,_,_,rfl,oM N C i,?_⟩,rfl,a9p⟩;rw[M,a5N];exact o.snoc ⟨y,rfl⟩
 .obtain rfl:a=b.length:=a9p;rw[a5f]at o;have l1:=U.aq T k.sub;have j:=U.aJ (k.sub _ _ S);clear f W j;refine ch [0,2,3] (λ_:Unit=> [(5,.v (.int .i64 0))]) (λ_ h=>h=H) (λ_=>0) () ⟨rfl,aU⟩ ?_;rintro _ _ rfl I;have j:=U.aJ (k.sub _ _ S);refine aa ?_;exact⟨aj,[],r,.nil,rfl,o,trivial⟩
def ji.le (d:e<=8) (b:ji e i w) (c:i<=1048576):w.hv/\w.sum.length=32/\w.cE:=by have a:=b.kK c;have h:=a.oc;have k:=a.od;have o:=a.oe;exact⟨⟨a9p,a9p,a9p,a.nc,a.live,a.nd,a.size⟩,b.sum,⟨a9p,a9p,a9p⟩⟩
def a3n (I:1<=i) (j:i<=8) (d:a6.T (e+1)) (r:R) (c:U) (K:bt c (e+1) d r) (F:eZ i (e+1) d)
  (ih: ∀(d:a6.T e) (r:R) (c:U),bt c e d r->eZ i e d->AC Tryz.prog 61 [r] c λG h=>c.sub h/\ ∃M l N,G= .agg (ab (bX e d) M l N)):
  AC Tryz.prog 115 [r] c λG h=>c.sub h/\ ∃m z O Q,G=gP (dz (e+1) d) (.J m O) (.J z Q)/\az dh (dz (e+1) d).rows m/\az bs (dz (e+1) d).kids z:=by
 obtain⟨b,rfl⟩:=a6.gv d;obtain⟨X,z,l6,l,rfl,n,C,l7,_⟩:=K;have C:az (bt c e) b z:=C;have Y:=F.hd;obtain⟨Z,j9,_⟩:=F.wf;rw[a6.dF]at Z j9;have l8:=F.dH;have l9:=C.len;have n0:=U.af n;refine aO hm Bn ?_;refine bq λL k0=> ?_;refine da λk k1 k2 n1=> ?_;have k3:=U.ah c L (.cells [.v (.int .u8 0),.J [] .nil,.J [] .nil]);have P:=U.ae (Y:= .cells [.v (.int .u8 0),.J [] .nil,.J [] .nil]) (U.a1 (f:=c)) k0;have o:(c.set L (.cells [.v (.int .u8 0),.J [] .nil,.J [] .nil])) k=none:=by rw[U.an _ _ k2];exact k1
 generalize c.set L _=q at*;have D:=P _ _ n;have n2:X≠k:=by rintro rfl;rw[D]at o;cases o
 refine ch [0,2,3] (λ_:Unit=> [(4,.v (.int .i64 0))]) (λ_ h=>h=(q.set k (.cells [.v (.int .u8 0),.J [] .nil,.J [] .nil])).set k (.cells [.v (.int .u8 2),.J [] .nil,.J [] .nil])) (λ_=>0) () ⟨rfl,aU⟩ ?_;rintro _ _ rfl k4;have n3:=U.af D;refine aa ?_;refine ch [0,2,3] (λa:Nat=> [(5,.v (.int .i64 (a:Int)))]) (λa h=>a<=b.length/\ ∃aj p,h k=some (.cells [.v (.int .u8 (if a=0 then 2 else 3)),.J [] .nil,.J aj p])/\bh q h 37 aj p/\az bs ((b.take a).map (bX e)) aj) (λa=>b.length - a) 0 ⟨⟨a5o _,[],.nil,U.ah _ _ _,bh.nil (U.ae (U.ae U.a1 o) o),trivial⟩,aU⟩ ?_;rintro a s ⟨n4,aj,p,E,x,y⟩ k4;have n5:=U.af (x.sub _ _ D);have k5:=U.af E;have k6:=U.aJ E;have k7:=y.len;rw[a4T,a4L]at k7;refine aa ?_;refine aH (λk8=> ?_) λk8=> ?_
 .have S:a<b.length:=a9p;have t:b[a]? =some b[a]:=a4H S;obtain⟨n9,a00,u⟩:=C.get t;obtain⟨T,_⟩:=Y _ (a4O t);have k9:(a6.bc e b[a]).length<=1048576:=T.dH;have l0:b.take (a+1)=b.take a++ [b[a]]:=a5V S;have V:=(uF I j T).le j k9;generalize b[a]=W at*;obtain⟨aQ,a01,a02,rfl,_⟩:=bt.ptr u;refine aa ?_;have f:=oM (Y:= .cells [.v (.int .u8 3),.J [] .nil,.J aj p]) x o E;have l1:=U.ah s k (.cells [.v (.int .u8 3),.J [] .nil,.J aj p]);clear x E k5 k6;generalize s.set k _=l2 at*;refine ai (ih W _ l2 (u.mono (U.aq P f.sub)) T) ?_;rintro _ a03 ⟨g,cg,c9,cW,rfl⟩;have v:=g _ _ l1;have a04:=U.af v;have a05:=U.af (g _ _ (f.sub _ _ D));have l3:=(iq (bX e W) cg c9 cW V.2.1).1;have w:aN 37 [R.agg (ab (bX e W) cg c9 cW)]:=λa06 A=>by rw[a4X]at A;subst A;exact l3
  refine aa ?_;refine cI U.a1 w λa07 a08 B=> ?_;refine aa ?_;refine qA ((f.mono g).mono B.sub) (y.cells λ_ _=>bs.cells) w a9r a9r λa09 a10 l4 l5=> ?_;have H:=l5 _ _ (B.sub _ _ v);have aF:=U.aJ H;refine aa ?_;refine⟨a+1,⟨S,_,_,rfl,oM l4 o H,?_⟩,rfl,a9p⟩;rw[l0,a5N];exact y.snoc ⟨V.2.1,V.2.2,cg,c9,cW,rfl⟩
 .obtain rfl:a=b.length:=a9p;rw[a5f]at y;have a11: ¬b.length=0:=a9p;have a13:=U.aJ (x.sub _ _ k3);refine aa ?_;exact⟨U.aq P x.sub,[],aj,.nil,p,rfl,trivial,y⟩
theorem Gz (B:1<=i) (H:i<=8) (a:a6.T e) (D:R) (b:U) (I:bt b e a D) (E:eZ i e a)
  (K: ∀x,b.sub x->AC Tryz.prog 115 [D] x λy G=>x.sub G/\ ∃p r z C,y=gP (dz e a) (.J p z) (.J r C)/\az dh (dz e a).rows p/\az bs (dz e a).kids r):
  AC Tryz.prog 61 [D] b λy x=>b.sub x/\ ∃h k o,y= .agg (ab (bX e a) h k o):=by
 have L:=(nq B H e a E).1;obtain⟨P,M,F⟩:=ll L.y8.ok;have q:=L.kK;have k2:=E.dH;have k3:=q.size;have s:=λp r z C b S T=>Gp (dz e a) p r z C b S T M F (λN O=>by have:=P N O;omega) (λQ X=>by
  have c:=L.y8.kids Q X;have D:=c.oc;have Y:=c.od;have k4:=c.oe;exact⟨⟨a9p,a9p,a9p,c.nc,c.live,c.nd,c.size⟩,c.sum,⟨a9p,a9p,a9p⟩⟩) (by show(eV (dz e a)).size<= _;omega) (λd=>by
  match e,a,d with
  |0,a,_=>obtain⟨t,rfl⟩:=a6.hZ a;have:=E.wf.1;rw[a6.hy]at this;intro Z;have j9:(dz 0 (a6.leaf t)).rows=t.map λy=>(y,true):=rfl;simp_all
  |e+1,a,d=>exact absurd d zJ) (λd=>by
  match e,a,d with
  |0,a,d=>rw[Er]at d;cases d
  |e+1,a,_=>obtain⟨u,rfl⟩:=a6.gv a;have:=E.wf.1;rw[a6.dF]at this;intro Z;have j9:(dz (e+1) (a6.node u)).kids=u.map (bX e):=rfl;simp_all)
 have V:=q.sum;rw[<-sO]at V s;obtain⟨Y,k5,k6,rfl,k7⟩:=bt.ptr I;generalize bX e a=W at*;have v:=λh k o=>iq W h k o V;have w: ∀h k o,putAt (ab aA .nil .nil .nil) 0 (ab W h k o)=ab W h k o:=λh k o=>cF bk V;have k8:=iq aA .nil .nil .nil bk;refine aO hm Bh ?_;refine bq λf P=> ?_;rw[cr];have A:=U.ae (Y:= .cells (ab aA .nil .nil .nil)) (U.a1 (f:=b)) P;refine ai (K _ A) ?_;rintro _ G ⟨g,p,r,z,C,rfl,S,T⟩;refine aa ?_;refine ai (s p r z C G S T) ?_;rintro _ k9 ⟨j,l,m,n,rfl⟩;have l0:=U.aJ (j _ _ (g _ _ (U.ah b f (.cells (ab aA .nil .nil .nil)))));refine aa ?_;have l1:=U.aq A (U.aq g j);have aI:=j _ _ (g _ _ (U.ah b f (.cells (ab aA .nil .nil .nil))));refine aP λk0 F=> ?_;have k1:f≠k0:=by rintro rfl;rw[aI]at F;cases F
 have l2:=k1.symm;have w:=w l m n;have v:=v l m n;refine aa ?_;exact⟨l,m,n,rfl⟩
def GA {x:Nat} (r:1<=x) (h:x<=8): ∀(d:Nat) (a:a6.T d) (b:R) (c:U),bt c d a b->eZ x d a->AC Tryz.prog 61 [b] c λz k=>c.sub k/\ ∃C D E,z= .agg (ab (bX d a) C D E)
 |0,a,b,c,o,p=>Gz r h a b c o p λk y=>a3m h a b k (o.mono y) p
 |d+1,a,b,c,o,p=>Gz r h a b c o p λk y=>a3n r h a b k (o.mono y) p λa b c=>GA r h d a b c
def a3o (h:1<=e) (k:e<=8) (a:eG) (b:R) (c:U) (d:fP c a b) (o:iM e a):AC Tryz.prog 61 [b] c λp r=>c.sub r/\ ∃x y z,p= .agg (ab (hG a) x y z):=by
 match a with
 |none=>obtain rfl:b= .v (.pointer none):=d;have eQ:=iq aA .nil .nil .nil bk;have D:putAt (ab aA .nil .nil .nil) 0 (ab aA .nil .nil .nil)=ab aA .nil .nil .nil:=cF bk bk;refine aO hm Bh ?_;refine bq λE F=> ?_;rw[cr];exact⟨.nil,.nil,.nil,by rw[(aX bk).t37];rfl⟩
 |some ⟨C,a⟩=>exact GA h k C a b c d (GT.jV o)
def jx (a:List cf):List R:=a.map cf.V
def rl {a:List cf}:(jx a).length=a.length:=by simp[jx]
def jy:List aS->List cp->Int×List aS
 |cB,[]=>(0,cB)
 |cB,a::b=>if(ed cB a).1=0 then jy (ed cB a).2 b else((ed cB a).1,[])
def kU (a:List aS) (b:List cp):Int×List aS:=if(jy a b).1=0 then jy a b else((jy a b).1,a)
def vx {a:List cf}{b:cf} (c:a[e]? =some b):eC 4 (jx a)[e]? =some (.bV b.C):=by obtain⟨d,rfl⟩:=a4P.1 c;rw[show(jx a)[e]? =some (a[e]).V by simp[jx,d]];rfl
theorem a3p (o:U) (p x:Nat) (b:List aS) (S:fE o p b) (T:cO x b) (a:List cf) (j:Own) (Y:x+a.length<900) (l: ∀V∈a,V.d.Fit/\cK V.d.row):
  AC Tryz.prog 35 [.ptr p 0,.J (jx a) j] o λm r=>fE r p (kU b (a.map cf.d)).2/\ee p o r/\m= .v (.int .i64 (kU b (a.map cf.d)).1):=by
 have Z:=rl (a:=a);have j9:=T.dH;have n:=a2J o p b S a9p;refine aO hm Kq ?_;refine ai n ?_;rintro _ k0 ⟨q,y,rfl,z,s⟩;refine aa ?_;refine ch [0,1,5] (λc:Nat×List aS=> [(6,.v (.int .i64 (c.1:Int)))]) (λc r=>c.1<=a.length/\fE r y c.2/\cO (x+c.1) c.2/\o.sub r/\jy c.2 ((a.drop c.1).map cf.d)=jy b (a.map cf.d)) (λc=>a.length - c.1) (0,b) ⟨⟨a5o _,s,T,q,rfl⟩,aU⟩ ?_;rintro⟨d,C⟩ t ⟨u,D,E,F,h⟩ k1
 dsimp only at u D E h|-
 refine aa ?_;refine aH (λv=> ?_) λv=> ?_
 .have G:d<a.length:=a9p;have W:a[d]? =some a[d]:=a4H G;have k2:=vx W;obtain⟨w,e⟩:=l _ (a4O W);have A:a.drop d=a[d]::a.drop (d+1):=a5c G;rw[A]at h;generalize a[d]=k at*;have B:=Gy t y (x+d) C D E a9p k w e;have H:=rk E a9p e;rw[a5h,jy]at h;have k3:k.C.length=4:=rfl;have k4:(.agg (k.C.take 4):R)=k.V:=rfl;have k5:aY true 4 k.C=k.V:=rfl;generalize k.C=k6 at*;generalize k.V=k7 at*;generalize ed C k.d=L at*;refine aa ?_;refine ai B ?_;rintro _ I ⟨K,M,rfl⟩;have k8:o.sub I:=λN f P=>M N f (by rintro rfl;rw[z]at P;cases P) (F _ _ P);refine aH (λc2=> ?_) λc2=> ?_
  .rw[if_neg c2]at h;have O:kU b (a.map cf.d)=(L.1,b):=by unfold kU;rw[<-h,if_neg c2]
   grind[U.a1,ee.of]
  .have aI:L.1=0:=c2;rw[if_pos aI]at h;refine⟨(d+1,L.2),⟨G,K,H,h⟩,rfl,by simp only;omega⟩
 .obtain rfl:d=a.length:=a9p;rw[a7q]at h;have O:kU b (a.map cf.d)=(0,C):=by unfold kU;rw[<-h];rfl
  obtain⟨k9,f,Q,X⟩:=D;obtain⟨l0,l1,g,l2⟩:=S;have l3:=U.af Q;have i:=F _ _ g;have l4:=U.aJ i;have l5:p≠y:=by rintro rfl;rw[g]at z;cases z
  refine aa ?_;exact⟨_,U.a1,vw i X,(ee.of F).set⟩
structure fV (a:ag) (l:List aK) (cB:List aS):Prop where
 eq:l=cB.map aS.bz
 ins: ∀t∈cB,ec a t.bK/\mr a t.cj
def fV.mono {b c:ag}{d:List aK}{h:List aS} (a:fV b d h) (k:b.le c):fV c d h:=⟨a.eq,λo p=>⟨(a.ins o p).1.mono k,(a.ins o p).2.mono k⟩⟩
theorem GB {b c:ag->Except Int ay×ag} (r: ∀a:ag,a.le (b a).2) (x: ∀a:ag,a.le (c a).2) (a:ag) (y:List aK) (z:aK):a.le (fD b c a y z).2.2:=by
 unfold fD;have d:=r a;generalize b a=h at*;obtain⟨k,o⟩:=h;cases k with
 |error C=>exact d
 |ok D=>
  have p:=x o
  dsimp only
  generalize c o=h at*;obtain⟨k,E⟩:=h;cases k with
  |error C=>exact d.trans p
  |ok F=>exact d.trans p
def GC (F:cO e X) (G:e<=1000) {a:aS} (L:eP i j7) (P:i<=1000) (y:j7.name=a.name) (S:j7.aC=a.aC) (T:bZ X a.name<X.length) {c b:ag->Except Int ay×ag}
  (r:gi H j7.bK (c H)) (h: ∀d:ag,H.le d->d.one=false->pO d j7.cj (b d)) (V: ∀d:ag,d.le (b d).2) (k:(fD c b H (X.map aS.bz) a.bz).2.2.one=false):
  (fD c b H (X.map aS.bz) a.bz).1=0/\(fD c b H (X.map aS.bz) a.bz).2.1=(X.set (bZ X a.name) j7).map aS.bz/\H.le (fD c b H (X.map aS.bz) a.bz).2.2/\ec (fD c b H (X.map aS.bz) a.bz).2.2 j7.bK/\mr (fD c b H (X.map aS.bz) a.bz).2.2 j7.cj:=by
 unfold fD at k|-;generalize c H=o at*;obtain⟨x,p⟩:=o;cases x with
 |error W=>cases (r.ins k).1
 |ok f=>
  dsimp only at k|-
  have C:=V p;have D:p.one=false:=by
   revert k;generalize b p=o at*;obtain⟨x,g⟩:=o;cases x with
   |error W=>exact λz=>C.zero z
   |ok f=>exact λz=>C.zero z
  obtain⟨j,l⟩:=r.ins D;obtain rfl:=Except.ok.inj j;have h:=h p r.le D;generalize b p=o at*;obtain⟨x,g⟩:=o;obtain rfl:=h.ok
  dsimp only at k|-
  have E:=pf F G L P (by rw[y];exact T);have m:j7.bz=⟨a.bz.name,a.bz.aC,bm j7.bK,hG j7.cj⟩:=by show(⟨j7.name,j7.aC,bm j7.bK,hG j7.cj⟩:aK)=⟨a.name,a.aC,bm j7.bK,hG j7.cj⟩;rw[y,S]
  rw[m,y]at E;rw[E];exact⟨rfl,rfl,r.le.trans h.le,l.mono h.le,h.ins k⟩
def a3q (a:ag) (b:ay):a.le (nC e q a b).2:=zf _ _ _ _
variable{h3:Int × List aK × ag}{b9:List aK}
theorem a3r (a:lE H b9 b8 h3):H.le h3.2.2:=by
 unfold lE at a;split at a
 .rw[a];exact ag.le_refl
 split at a
 .rcases a with ⟨_,rfl⟩|⟨rows,_,_,⟨_,rfl⟩|⟨_,rfl⟩⟩
  .exact ag.le_refl
  .exact GB (λH=>a3q _ _) (λH=>Ez) _ _ _
  .exact ag.le_refl
 .rw[a];exact ag.le_refl
theorem a3s:H.le (jt H b9 b8).2.2:=by grind[jt,ag.le_refl,GB,a1A,EC]
theorem zZ (a:eA H b9 b8 h3):H.le h3.2.2:=by grind[eA,ag.le_refl,a3r,a3s]
theorem A0 {b:Except Int (List aK)} (c:cA b9=true) (d: ∀a,b= .ok a->cA a=true):cA (iP b b9).2=true:=by
 cases b with
 |error h=>exact c
 |ok a=>exact d a rfl
variable{e6:aK}
theorem GD {a b:ag->Except Int ay×ag} (c:cA b9=true):cA (fD a b H b9 e6).2.1=true:=by grind[fD,A0,G5]
theorem GF (b:cA b9=true) (a:eA H b9 b8 h3):cA h3.2.1=true:=by
 unfold eA at a;split at a
 .rw[a];exact b
 split at a
 .rw[a];exact A0 b λc a=>G8 a
 split at a
 .rw[a];exact A0 b λc a=>G4 b a
 split at a
 .unfold lE at a;split at a
  .rw[a];exact b
  split at a
  .rcases a with ⟨_,rfl⟩|⟨rows,_,_,⟨_,rfl⟩|⟨_,rfl⟩⟩
   .exact b
   .exact GD b
   .exact b
  .rw[a];exact b
 grind[jt,GD]
def vy (c:cA b9=true): ∀a∈b9,a.Fit:=λa d=>by
 have b:=(mo c).1 a d;exact⟨by have:=b.n;omega,by have:=b.c;omega,λh k=>by have:=b.cs h k;omega⟩
theorem pR (a:eA H b9 b8 h3) (x:cO e X) (I:e<900) (o:cK b8.row) (p:fV H b9 X) (S:h3.2.2.one=false):
  h3.1=(ed X b8).1/\fV h3.2.2 h3.2.1 (ed X b8).2:=by
 obtain⟨rfl,y⟩:=p;have p:fV H (X.map aS.bz) X:=⟨rfl,y⟩;unfold eA at a;unfold ed;by_cases K:ea b8=false;simp_all;rw[if_neg K]at a|-;have f:ea b8=true:=by cases d:ea b8<;>simp_all
 by_cases z:b8.kind=1
 .rw[if_pos z]at a|-;have M:=zS f z;rw[add_eq x a9p M]at a;by_cases c2:bZ X b8.table<X.length
  .rw[if_pos c2]at a|-;rw[a];exact⟨rfl,p⟩
  rw[if_neg c2]at a|-;by_cases aI:7<X.length
  .rw[if_pos aI]at a|-;rw[a];exact⟨rfl,p⟩
  rw[if_neg aI]at a|-;rw[a];refine⟨rfl,rfl,λb c=> ?_⟩;simp only[a5a,a5i]at c;rcases c with c|rfl|c;grind
  .exact⟨trivial,trivial⟩
  grind
 rw[if_neg z]at a|-;by_cases aI:b8.kind=2
 .rw[if_pos aI]at a;rw[zT x a9p]at a;by_cases c2:bZ X b8.table<X.length
  .rw[if_pos c2]at a;rw[if_neg a9p,if_pos aI,a];exact⟨rfl,rfl,λb c=>y b (a7S c)⟩
  .rw[if_neg c2]at a;rw[if_pos a9p,a];exact⟨rfl,p⟩
 rw[if_neg aI]at a;by_cases c2:X.length<=bZ X b8.table
 .rw[if_pos c2];have g:(X.map aS.bz).find? (λb=>decide (b.name=b8.table))=none:=by rw[pP,a7B c2];rfl
  rcases tj f z aI with h|h
  .rw[if_pos h]at a;unfold lE at a;simp_all
  .rw[if_neg (by rw[h];decide)]at a;unfold jt mq at a;simp_all
 rw[if_neg c2,if_neg aI];have C:bZ X b8.table<X.length:=a9p;have u:=vv C;have c:=x.ok _ u;have T:=ti C;have g:(X.map aS.bz).find? (λb=>decide (b.name=b8.table))=some (X.getD (bZ X b8.table) default).bz:=by rw[pP,a5s,a4H C];rfl
 generalize X.getD (bZ X b8.table) default=b at*;have k4:=c.c;obtain⟨D,w⟩:=y b u;have k5:=c.dA.cq;have V: ∀W:aS,ec h3.2.2 W.bK/\mr h3.2.2 W.cj->H.le h3.2.2-> ∀v∈X.set (bZ X b8.table) W,ec h3.2.2 v.bK/\mr h3.2.2 v.cj:=λW E r v N=>by
  rcases a6W N with d|rfl
  .exact⟨(y v d).1.mono r,(y v d).2.mono r⟩
  .exact E
 rcases tj f z aI with h|h
 .rw[if_pos h]at a;rw[if_neg (show¬b8.kind=4 by rw[h];decide)];unfold lE at a;rw[g]at a
  dsimp only at a
  by_cases aM:b8.row.length=b.aC.length+1
  .rw[if_neg (show¬b8.row.length≠b.aC.length+1 from λd=>d aM)];rw[if_pos (show b8.row.length=b.bz.aC.length+1 from aM)]at a;have i:bN (b.aC.length+1) b8.row:=⟨aM,o⟩;rcases a with ⟨F,_⟩|⟨rows,O,_,a⟩
   .exact absurd F (zC (e:=b.aC.length+1) (a8:=b.bK) a9p a9p c.dA.fi a9p D)
   have Q:=zE (e:=b.aC.length+1) (a8:=b.bK) a9p a9p c.dA.fi a9p D O;have Y:rows= []↔ ¬b.rows.any (λG=>decide (bQ G=bQ b8.row))=true:=by
    rw[Q,a7G];constructor
    .rintro d ⟨G,o,k⟩;exact d G (c.gb.mem_iff.2 o) ((zF (e:=b.aC.length) a9p (c.row o)).2 (of_decide_eq_true k))
    .intro d Z j9 L;have A:=c.gb.mem_iff.1 j9;exact d ⟨Z,A,decide_eq_true ((zF (e:=b.aC.length) a9p (c.row A)).1 L)⟩
   rcases a with ⟨k,a⟩|⟨k,a⟩
   .have B:=Y.1 k;rw[if_neg B];obtain⟨E,j,l⟩:=c.put I i λG o k=>B (a7G.2 ⟨G,o,decide_eq_true k⟩);have F:=a1B (e:=b.aC.length+1) a9p a9p i c.dA.fi a9p D j;rw[a]at S V|-;have L:=GC (a:=b) (j7:=b.put b8.row) x a9p E a9p rfl rfl (by rw[T];exact C) (c:=λH=>nC (b.aC.length+1) b8.row H (bm b.bK)) (b:=λH=>iI (b.aC.length+1) b8.row H (hG b.cj)) F (λm r k0=>a2w a9p a9p i c.go (w.mono r) l) (λm=>Ez) S;obtain⟨n,P,q,s,t⟩:=L;rw[T]at P;exact⟨n,P,V _ ⟨s,t⟩ q⟩
   grind
  .rw[if_neg (show¬b8.row.length=b.bz.aC.length+1 from aM)]at a;grind
 .rw[if_neg (by rw[h];decide)]at a;rw[if_pos h];unfold jt mq at a;rw[g]at a
  dsimp only at a
  by_cases aM:b8.row.length=b.aC.length+1
  .rw[if_neg (show¬b8.row.length≠b.aC.length+1 from λd=>d aM)];rw[if_pos (show b8.row.length=b.bz.aC.length+1 from aM)]at a
   dsimp only at a
   rw[if_pos rfl]at a;by_cases bC:b8.row∈b.rows
   .rw[if_pos bC];obtain⟨E,j,l⟩:=c.del bC;have F:=a1C (e:=b.aC.length+1) (q:=b8.row) a9p a9p c.dA.fi a9p D j;rw[a]at S V|-;have L:=GC (a:=b) (j7:=b.del b8.row) x a9p E a9p rfl rfl (by rw[T];exact C) (c:=λH=>iO (b.aC.length+1) b8.row H (bm b.bK)) (b:=λH=>kG (b.aC.length+1) b8.row H (hG b.cj)) F (λm r k0=>a2B a9p a9p (c.row bC) c.go (w.mono r) l) (λm=>EC) S;obtain⟨n,P,q,s,t⟩:=L;rw[T]at P;exact⟨n,P,V _ ⟨s,t⟩ q⟩
   .rw[if_neg bC];have k1:=FC (e:=b.aC.length+1) (q:=b8.row) a9p a9p c.dA.fi a9p D (c.none aM bC);have k2:h3=(9,X.map aS.bz,H):=by
     rw[a];unfold fD;show(match iO (b.aC.length+1) b8.row H (bm b.bK)with
      |(.error k,k3)=> _
      |(.ok k6,k3)=> _:Int×List aK×ag)= _
     rw[k1]
    rw[k2];exact⟨rfl,p⟩
  .rw[if_neg (show¬b8.row.length=b.bz.aC.length+1 from aM)]at a;simp_all
inductive mu:ag->List aK->List cp->Int×List aK×ag->Prop
 |nil (a:ag) (l:List aK):mu a l [] (0,l,a)
 |stop {a:ag}{l:List aK}{d:cp}{cB:List cp}{res:Int×List aK×ag}:eA a l d res->res.1≠0->mu a l (d::cB) res
 |step {a:ag}{l:List aK}{d:cp}{cB:List cp}{res b:Int×List aK×ag}:eA a l d res->res.1=0->mu res.2.2 res.2.1 cB b->mu a l (d::cB) b
def a3t (o:U) (k p r:Nat) (C:ag) (x:List aK) (b:cP o k p r C x) (s:cA x=true) (a:List cf) (I:Own) (K: ∀M∈a,M.d.Fit) (l3:a.length<=1000000):
  AC Tryz.prog 34 [.ptr k 0,.J (jx a) I] o λN D=> ∃res,mu C x (a.map cf.d) res/\N= .v (.int .i64 res.1)/\cP D k p r res.2.2 (if res.1=0 then res.2.1 else x)/\cy k p r o D:=by
 have l4:=rl (a:=a);have l5:=(mo s).2;have O:=a2e o k p r C x b a9p;refine aO hm Ko ?_;refine ai O ?_;rintro _ l6 ⟨Q,G,rfl,L,X⟩;refine aa ?_;refine ch [0,5,11,12] (λc:Nat×ag×List aK=> [(13,.v (.int .i64 (c.1:Int)))]) (λc D=>c.1<=a.length/\cP D G p r c.2.1 c.2.2/\cA c.2.2=true/\cy G p r o D/\ ∀P,mu c.2.1 c.2.2 ((a.drop c.1).map cf.d) P->mu C x (a.map cf.d) P) (λc=>a.length - c.1) (0,C,x) ⟨⟨a5o _,X,s,cy.of Q,λP E=>E⟩,aU⟩ ?_;rintro⟨h,V,W⟩ t ⟨Y,S,T,e,y⟩ l7
 dsimp only at Y S T y|-
 obtain⟨Z,j9,f,k0⟩:=b.x;have u:k≠G:=by rintro rfl;rw[f]at L;cases L
 have k1:=e k _ u b.jq b.jr f;refine aa ?_;refine aH (λF=> ?_) λF=> ?_
 .have g:h<a.length:=a9p;have v:a[h]? =some a[h]:=a4H g;have l8:=vx v;have k2:=K _ (a4O v);have k3:a.drop h=a[h]::a.drop (h+1):=a5c g;rw[k3]at y;generalize a[h]=d at*;have i:=λo E=>zG o G p r V W E (vy T) T d k2;rw[a5h]at y;have k4:d.C.length=4:=rfl;have l9:(.agg (d.C.take 4):R)=d.V:=rfl;have n0:aY true 4 d.C=d.V:=rfl;have n1:d.V.cells=d.C:=rfl;generalize d.C=j at*;generalize d.V=n2 at*;have n3:putAt [R.v (.int .u8 0),.v (.string ⟨#[]⟩),.J [] .nil,.J [] .nil] 0 j=j:=ql k4;refine aa ?_;refine aP λk5 k6=> ?_;refine aa ?_;have w:=U.ae (Y:= .cells j) (U.a1 (f:=t)) k6;generalize t.set k5 _=k7 at*;have i:=i k7 (S.sub w);refine ai i ?_;rintro _ n4 ⟨res,l,rfl,A,k8⟩;have B:=(e.trans (cy.of w)).trans k8;refine aa ?_;refine aH (λc2=> ?_) λc2=> ?_
  .refine⟨_,U.a1,res,y _ (.stop l c2),rfl,?_,?_⟩
   .rw[if_neg c2];exact⟨A.gg,⟨Z,j9,B k _ u b.jq b.jr f,k0⟩,b.jq,b.jr⟩
   .exact λm n H q F z=>B m n (by rintro rfl;rw[L]at z;cases z) q F z
  .have aI:res.1=0:=c2;exact⟨(h+1,res.2.2,res.2.1),⟨g,A,GF T l,λP E=>y _ (.step l aI E)⟩,rfl,by simp only;omega⟩
 .obtain rfl:h=a.length:=a9p;rw[a7q]at y;obtain⟨k9,l0,l1,l2⟩:=S.x;have n5:=U.af l1;have n9:=U.aJ k1;refine aa ?_;refine⟨_,U.a1,(0,W,V),y _ (.nil V W),rfl,?_,?_⟩
  .exact⟨S.gg.set ⟨b.jq,b.jr⟩,⟨k9,l0,U.ah _ _ _,l2⟩,b.jq,b.jr⟩
  .exact λm n H q F z=>by rw[U.an _ _ H];exact e m n (by rintro rfl;rw[L]at z;cases z) q F z
def a3u (z:U) (i j:Nat) (b:List aS) (r:fE z i b) (l:cO j b) (l2:j<=1000):
  AC Tryz.prog 25 [.ptr i 0] z λK D=>z.sub D/\ ∃x m,K= .J x m/\az dD (b.map aS.bz) x:=by
 obtain⟨l3,m,E,n⟩:=r;have l4:=n.len;have l5:=l.dH;refine aO hm Ke ?_;refine ch [0] (λc:Nat×List R×Own=> [(3,.J c.2.1 c.2.2),(4,.v (.int .i64 (c.1:Int)))]) (λc D=>c.1<=b.length/\bh z D 76 c.2.1 c.2.2/\az dD ((b.take c.1).map aS.bz) c.2.1) (λc=>b.length - c.1) (0,[],.nil) ⟨⟨a5o _,bh.nil U.a1,trivial⟩,aU⟩ ?_;rintro⟨k,x,M⟩ N ⟨O,d,o⟩ l6
 dsimp only at O d o|-
 have q:=U.af (d.sub _ _ E);have Q:=o.len;rw[a4T,a4L]at Q;refine aa ?_;refine aH (λX=> ?_) λX=> ?_
 .have s:k<b.length:=a9p;have t:b[k]? =some (b.getD k default):=by simp[List.getD,s]
  obtain⟨_,l7,l8,y,l9,n0,Y,Z,rfl,F,n1,u,v⟩:=n.get t;have h:=l.ok _ (a4O t);have j9:=eT (a:=b) (b:=default) (e:=k) s;generalize b.getD k default=a at*;have n2:=h.c;have n3:=h.dA.cq;have G:=(fh (a:=a.aC.length+1) a9p a9p h.dA.fi a9p).le a9p a9p;have L:(hG a.cj).sum.length=32/\(hG a.cj).cE:=by
   rcases zL (e:=a.aC.length+1) a9p a9p h.go with ⟨_,C⟩|⟨_,C⟩
   .rw[C];exact⟨bk,me⟩
   .have n4:=h.nH.length_eq;have n5:=h.dH;have:=C.le a9p a9p;exact⟨this.2.1,this.2.2⟩
  have w:=U.af (d.sub _ _ F);have n9:=u.cells;have eQ:=v.cells;refine aa ?_;refine ai (zY (s:=a.aC.length+1) a9p a9p a.bK Y N (u.mono d.sub) h.dA.fi a9p) ?_;rintro _ k0 ⟨p,P,S,V,rfl⟩;have q:=U.af (p _ _ (d.sub _ _ E));have w:=U.af (p _ _ (d.sub _ _ F));refine aa ?_;refine ai (a3o (e:=a.aC.length+1) a9p a9p a.cj Z k0 (v.fG (U.o3 (U.aq d.sub p))) h.go) ?_;rintro _ a00 ⟨W,cg,c9,cW,rfl⟩;have q:=U.af (W _ _ (p _ _ (d.sub _ _ E)));have w:=U.af (W _ _ (p _ _ (d.sub _ _ F)));have k1:a.aC.length<=1000000:=a9p;have e:et ⟨a.name,a.aC,aA,aA⟩ (bd a.name:: .J (bE a.aC) y::(ab aA .nil .nil .nil++ab aA .nil .nil .nil)):=⟨⟨y,_,_,_,_,_,_,rfl⟩,⟨bk,me⟩,⟨bk,me⟩,k1⟩;have f:=e.FU (N:=P) (e5:=S) (h5:=V) G.2.1 G.2.2;have A:=f.FV (N:=cg) (e5:=c9) (h5:=cW) L.1 L.2;have a01:putAt cx 0 [bd a.name]=bd a.name:: .J [] .nil::(ab aA .nil .nil .nil++ab aA .nil .nil .nil):=rfl;have a02:putAt (bd a.name:: .J [] .nil::(ab aA .nil .nil .nil++ab aA .nil .nil .nil)) 1 [.J (bE a.aC) y]=bd a.name:: .J (bE a.aC) y::(ab aA .nil .nil .nil++ab aA .nil .nil .nil):=rfl;have a03:(cx).length=76:=fU.all.1;have a04:(bd a.name:: .J [] .nil::(ab aA .nil .nil .nil++ab aA .nil .nil .nil)).length=76:=by omega
  have a05:=e.all.1;have a06:=f.all.1;have k2:=A.all.1;have a07:=(aX (N:=P) (e5:=S) (h5:=V) G.2.1).len;have a08:=(aX (N:=cg) (e5:=c9) (h5:=cW) L.1).len;have B:=jo;generalize cx=a09 at*;generalize bd a.name:: .J [] .nil::(ab aA .nil .nil .nil++ab aA .nil .nil .nil)=a10 at*;generalize bd a.name:: .J (bE a.aC) y::(ab aA .nil .nil .nil++ab aA .nil .nil .nil)=k3 at*;generalize k4:ab (bm a.bK) P S V=k5 at*;generalize k6:ab (hG a.cj) cg c9 cW=k7 at*;generalize a11:putAt k3 2 k5=k8 at*;generalize a13:putAt k8 39 k7=g at*;clear k4 k6 e f;rw[B];clear B;refine aa ?_;have H:aN 76 [R.agg g]:=λC I=>by rw[a4X]at I;subst I;exact k2
  refine cI U.a1 H λa14 a15 k9=> ?_;refine aa ?_;refine dp (((d.mono p).mono W).mono k9.sub) (o.cells λc a16 r=>by obtain⟨T,rfl,r⟩:=r;exact r.all.1) H a9r a9r λl0 a18 l1=> ?_;refine aa ?_;refine⟨(k+1,x++ [.agg g],l0),⟨by simp only;omega,l1,?_⟩,⟨rfl,rfl⟩,by simp only;omega⟩;simp only[j9,a5N];exact o.snoc ⟨g,rfl,A⟩
 .obtain rfl:k=b.length:=a9p;rw[a5f]at o;exact⟨d.sub,x,M,rfl,o⟩
def a3v (p:cO e X) (r:e<=1000): ∀o∈X.map aS.bz,o.In:=λo x=>by
 obtain⟨d,y,rfl⟩:=a5d.1 x;have c:=p.ok d y;have C:=c.c;have D:=c.dA.cq;have a:=(fh (a:=d.aC.length+1) a9p a9p c.dA.fi a9p).kK a9p;refine⟨FN (c.bz r),?_,?_⟩
 .show(bm d.bK).In 8;have:=a.oc;have:=a.od;have:=a.oe;exact⟨a.sum,a.aV,a.aW,a.key,a9p,a9p,a9p,a.nc,a.live,a.nd,a.size⟩
 .show(hG d.cj).In 8;rcases zL (e:=d.aC.length+1) a9p a9p c.go with ⟨_,k⟩|⟨_,k⟩
  .rw[k];have h:cK []:=λE z=>(by cases z);exact⟨bk,h,h,h,a5o _,a5o _,a5o _,a9t,a9t,a9t,a9t⟩
  .have h:=c.nH.length_eq;have F:=c.dH;have b:=k.kK a9p;have:=b.oc;have:=b.od;have:=b.oe;exact⟨b.sum,b.aV,b.aW,b.key,a9p,a9p,a9p,b.nc,b.live,b.nd,b.size⟩
def vz (d h:U):Prop:= ∀b a c,d b=some (.cells (a::c))->((∃k o,a= .J k o)\/ ∃p,a=bd p)->h b=some (.cells (a::c))
def dR.mv {b c:U} (a:vz b c): ∀ {d:aD}{h:R},dR b d h->dR c d h
 | .nil,_,k=>k
 | .node _ _ _ _,_,⟨o,p,r,x,h1,y,z,C⟩=>⟨o,p,r,x,h1,a _ _ _ y (.inl ⟨_,_,rfl⟩),z.mv a,C.mv a⟩
def gK.mv {b c:U} (a:vz b c) {d:aS}{h:R} (o:gK b d h):gK c d h:=by obtain⟨p,r,x,y,k,z,C,D,E,F,G⟩:=o;exact⟨p,r,x,y,k,z,C,a _ _ _ D (.inr ⟨_,rfl⟩),E,F.mv a,G.Gk λP S T k V L=>a _ _ _ L (.inl ⟨_,_,rfl⟩)⟩
def fE.mv {b c:U} (d:vz b c) {h:Nat}{k:List aS} (a:fE b h k):fE c h k:=by obtain⟨o,p,r,x⟩:=a;exact⟨o,p,d _ _ _ r (.inl ⟨_,_,rfl⟩),x.mono λy z a=>a.mv d⟩
theorem cy.rs (c:cP f e i v H b9) (h:cy e i v f t):vz f t:=λk r x a d=>by
 obtain⟨y,z,o,_⟩:=c.x;obtain⟨C,D,p⟩:=c.gg.at_;obtain⟨E,⟨F,G,L,_⟩,_⟩:=c.gg.mp;refine h k _ ?_ ?_ ?_ a
 .rintro rfl;rw[o]at a;obtain⟨rfl,_⟩:=a8w (bp.cells.inj (a4G a));rcases d with ⟨_,_,b⟩|⟨_,b⟩<;>cases b
 .rintro rfl;rw[p]at a;obtain⟨rfl,_⟩:=a8w (bp.cells.inj (a4G a));rcases d with ⟨_,_,b⟩|⟨_,b⟩<;>cases b
 grind
def cP.GG (a:cP f i v M H b9) (o:fE f e X) (d:ee e f t):cP t i v M H b9:=by
 obtain⟨p,r,h,x⟩:=a.x;obtain⟨D,E,b⟩:=a.gg.at_;obtain⟨F,⟨G,L,c,P⟩,S⟩:=a.gg.mp;obtain⟨T,V,k,_⟩:=o;have y:i≠e:=by rintro rfl;rw[k]at h;cases h
 have z:v≠e:=by rintro rfl;rw[k]at b;cases b
 have C:M≠e:=by rintro rfl;rw[k]at c;cases c
 exact⟨a.gg.other (by rw[b];exact d _ _ z b) (by rw[c];exact d _ _ C c),⟨p,r,d _ _ y h,x⟩,a.jq,a.jr⟩
structure vA (b:U) (c gD d W:Nat) (a:ag) (l:List aK) (cB:List aS) (n:Nat):Prop where
 st:cP b c gD d a l
 cat:cA l=true
 rs:fE b W cB
 inv:cO n cB
 rep:a.one=false->fV a l cB
def vA.step {L y z:U}{h k o p C:Nat}{D:ag}{P:List aK}{r:List aS} (a:vA L h k o p D P r C) (E:C<900) {c:cp} (F:cK c.row) {b:Int×List aK×ag} (x:eA D P c b)
  (S:cP y h k o b.2.2 b.2.1) (T:cy h k o L y) (V:fE z p (ed r c).2) (W:ee p y z):vA z h k o p b.2.2 b.2.1 (ed r c).2 (C+1)/\D.le b.2.2/\(b.2.2.one=false->b.1=(ed r c).1):=by
 have G:=zZ x;have e:=a.rs.mv (T.rs a.st);refine⟨⟨S.GG e W,GF a.cat x,V,rk a.inv E F,λd=>(pR x a.inv E F (a.rep (G.zero d)) d).2⟩,G,λd=>(pR x a.inv E F (a.rep (G.zero d)) d).1⟩
def cp.hI (a:cp):Prop:=a.table.length<=100/\a.aC.length<=20/\(∀b∈a.aC,b.length<=100)/\a.row.length<=50
def cp.hI.fit (a:b8.hI):b8.Fit:=⟨by have:=a.1;omega,by have:=a.2.1;omega,λb c=>by have:=a.2.2.1 b c;omega,by have:=a.2.2.2;omega⟩
theorem GH (b:List cf) (D:Own) (p:U) (W:b.length<=9223372036854775807):
  AC Tryz.prog 9 [.J (jx b) D] p λE F=>F=p/\ ∃r,E= .v (.bool r)/\(r=false->b.length<=300/\ ∀h∈b,h.d.hI):=by
 have e:=rl (a:=b);refine aO hm JQ ?_;refine aH (λx=> ?_) λf=> ?_;simp;refine gO [0] (λc:Nat=> [(3,.v (.int .i64 c))]) (λc=>c<=b.length/\ ∀h∈b.take c,h.d.hI) (λc=>b.length - c) 0 ⟨a5o _,λh k=>by cases k⟩ aU ?_;rintro c ⟨g,G⟩ L;refine aa ?_;refine aH (λx=> ?_) λx=> ?_
 .have o:c<b.length:=a9p;have P:b[c]? =some b[c]:=a4H o;have i:=vx P;have S:b.take (c+1)=b.take c++ [b[c]]:=a5V o;generalize b[c]=a at*;have j:=cf.m1 (a:=a);have l:=cf.m2 (a:=a);have m:=cf.m3 (a:=a);have n:=cf.ZA (a:=a);have q:=hC (a:=a.d.aC);have s:=bH (q:=a.d.row);have t:=sQ (B:=a.d.table);generalize a.C=u at*;refine aa ?_;refine aH (λT=> ?_) λT=> ?_;rotate_left;simp;refine aH (λc2=> ?_) λc2=> ?_;rotate_left;simp;refine aH (λaI=> ?_) λaI=> ?_;simp;refine gO [0,3] (λd:Nat=> [(4,.v (.int .i64 d))]) (λd=>d<=a.d.aC.length/\ ∀V∈a.d.aC.take d,V.length<=100) (λd=>a.d.aC.length - d) 0 ⟨a5o _,λh k=>by cases k⟩ aU ?_;rintro d ⟨v,y⟩ L;refine aa ?_;refine aH (λaM=> ?_) λaM=> ?_
  .have z:d<a.d.aC.length:=a9p;have w:=pz (a:=a.d.aC) z;have A:a.d.aC.take (d+1)=a.d.aC.take d++ [a.d.aC.getD d []]:=eT z;have B:=sQ (B:=a.d.aC.getD d []);generalize a.d.aC.getD d []=H at*;refine aa ?_;refine aH (λbo=> ?_) λbo=> ?_;simp;grind
  .obtain rfl:d=a.d.aC.length:=a9p;rw[a5f]at y;refine⟨c+1,⟨o,λh C=> ?_⟩,rfl,a9p⟩;rw[S]at C;rcases a5a.1 C with k|k
   .exact G h k
   .obtain rfl:=a4X.1 k;exact⟨a9p,a9p,y,a9p⟩
 grind
def tk (a:U) (c d h:Nat) (b:ag) (k:List aK) (o:cP a c d h b k):
  AC Tryz.prog 22 [.ptr c 0] a λp r=>a.sub r/\p= .v (.bool b.one):=by
 refine aO hm K8 ?_;refine bj (a2c a c d h b k o) ?_;refine ai (Y0 a d h b o.gg) ?_;rintro _ x ⟨y,z,C,rfl⟩;refine aa ?_;trivial
theorem A1 (a:eA H b9 b8 h3) (r:cO e X) (f:e<900) (o:cK b8.row) (F:fV H b9 X) (c:(ed X b8).1≠0):h3=((ed X b8).1,b9,H):=by
 obtain⟨rfl,G⟩:=F;unfold eA at a;unfold ed at c|-;by_cases L:ea b8=false;grind;rw[if_neg L]at a c|-;have D:ea b8=true:=by cases h:ea b8<;>simp_all
 by_cases p:b8.kind=1
 .rw[if_pos p]at a c|-;have P:=zS D p;rw[add_eq r a9p P]at a;by_cases c2:bZ X b8.table<X.length
  .rw[if_pos c2]at a c|-;exact a
  rw[if_neg c2]at a c|-;by_cases aI:7<X.length
  .rw[if_pos aI]at a c|-;exact a
  simp_all
 rw[if_neg p]at a c|-;by_cases aI:b8.kind=2
 .rw[if_pos aI]at a;rw[zT r a9p]at a;by_cases c2:bZ X b8.table<X.length;grind
  .rw[if_neg c2]at a;rw[if_pos a9p];exact a
 rw[if_neg aI]at a;by_cases c2:X.length<=bZ X b8.table
 .rw[if_pos c2];have x:(X.map aS.bz).find? (λb=>decide (b.name=b8.table))=none:=by rw[pP,a7B c2];rfl
  simp_all [tj,if_pos,lE,if_neg,jt,mq]
 rw[if_neg c2,if_neg aI]at c|-;have y:bZ X b8.table<X.length:=a9p;have E:=vv y;have d:=r.ok _ E;have g:=ti y;have x:(X.map aS.bz).find? (λb=>decide (b.name=b8.table))=some (X.getD (bZ X b8.table) default).bz:=by rw[pP,a5s,a4H y];rfl
 generalize X.getD (bZ X b8.table) default=b at*;have i:=d.c;obtain⟨z,j⟩:=G b E;have l:=d.dA.cq;rcases tj D p aI with k|k
 .rw[if_pos k]at a;rw[if_neg (show¬b8.kind=4 by rw[k];decide)]at c|-;unfold lE at a;rw[x]at a
  dsimp only at a
  by_cases aM:b8.row.length=b.aC.length+1
  .rw[if_neg (show¬b8.row.length≠b.aC.length+1 from λh=>h aM)];rw[if_pos (show b8.row.length=b.bz.aC.length+1 from aM)]at a;have m:bN (b.aC.length+1) b8.row:=⟨aM,o⟩;rcases a with ⟨S,_⟩|⟨rows,T,_,a⟩
   .exact absurd S (zC (e:=b.aC.length+1) (a8:=b.bK) a9p a9p d.dA.fi a9p z)
   have V:=zE (e:=b.aC.length+1) (a8:=b.bK) a9p a9p d.dA.fi a9p z T;have n:rows= []↔ ¬b.rows.any (λC=>decide (bQ C=bQ b8.row))=true:=by
    rw[V,a7G];constructor
    .rintro h ⟨C,o,W⟩;exact h C (d.gb.mem_iff.2 o) ((zF (e:=b.aC.length) a9p (d.row o)).2 (of_decide_eq_true W))
    grind
   grind
  .rw[if_neg (show¬b8.row.length=b.bz.aC.length+1 from aM)]at a;rw[if_pos aM];exact a
 .rw[if_neg (by rw[k];decide)]at a;rw[if_pos k]at c|-;unfold jt mq at a;rw[x]at a
  dsimp only at a
  by_cases aM:b8.row.length=b.aC.length+1
  .rw[if_neg (show¬b8.row.length≠b.aC.length+1 from λh=>h aM)];rw[if_pos (show b8.row.length=b.bz.aC.length+1 from aM)]at a
   dsimp only at a
   rw[if_pos rfl]at a;by_cases bC:b8.row∈b.rows;simp_all
   .rw[if_neg bC];have q:=FC (e:=b.aC.length+1) (q:=b8.row) a9p a9p d.dA.fi a9p z (d.none aM bC);grind[aS.bz,fD,iO,bm]
  .rw[if_neg (show¬b8.row.length=b.bz.aC.length+1 from aM)]at a;simp_all
def pS:List UInt8:=db (ck ([1,5],true) aA aA)
def tl:List UInt8:=db (dG [[1,5]])
def a3w:eU pS≠eU tl:=by unfold eU;decide+kernel
def fW:ag:=eN (eN ag.new pS) tl
def GI:fW.one=false:=by unfold fW eN;have a:ag.new.m (eU pS)=none:=rfl;rw[a];have b:(if eU tl=eU pS then some pS else none)=none:=if_neg (a4Q a3w);simp only[ag.new,b]
theorem GJ (a:eA H b9 b8 h3) (b:b8.kind=1\/b8.kind=2):h3.2.2=H:=by grind[eA,absurd]
theorem A2:bN 2 [1,5]:=⟨rfl,λa b=>by
 grind⟩
def a3x (a:e6.bK=aA) (b:e6.cj=aA):(fD (λH=>nC 2 [1,5] H e6.bK) (λH=>iI 2 [1,5] H e6.cj) H b9 e6).2.2=eN (eN H pS) tl:=by
 have c:=(v8 (e:=2) (I:=true) a9p a9p A2 (z7 (e:=2)) (z7 (e:=2)) a9t).2.2;have d:=(uE (e:=2) a9p a9p (O:= [[1,5]]) a9q a9q (λp h=>by obtain rfl:=a4X.1 h;exact A2)).oy;have k: ∀H:ag,nC 2 [1,5] H aA=(.ok (eV (ck ([1,5],true) aA aA)),eN H pS):=λH=>by
  unfold nC;rw[jl,if_pos rfl];exact oz c H
 have o: ∀H:ag,iI 2 [1,5] H aA=(.ok (eV (dG [[1,5]])),eN H tl):=λH=>by
  unfold iI;rw[if_pos rfl];exact oz d H
 unfold fD;simp only[a,b,k,o]
def hJ:aS:=⟨[116],[[97]],[],.nil,none⟩
def eB:aS:=hJ.put [1,5]
def rm:cp:=⟨1,[116],[[97]],[]⟩
def kf:cp:=⟨3,[116],[],[1,5]⟩
def pT:cp:=⟨3,[116],[],[1,6]⟩
def pU:cp:=⟨3,[116],[],[2,3,4]⟩
def tm:cp:=⟨4,[116],[],[1,6]⟩
def tn:cp:=⟨2,[116],[],[]⟩
theorem cg:ed [] rm=(0,[hJ]):=a9u
theorem c9:ed [hJ] kf=(0,[eB]):=a9u
def cW:(ed [eB] pT).1=8:=a9u
def dY:(ed [eB] pU).1=6:=a9u
def gR:(ed [eB] tm).1=9:=a9u
def ei:ed [eB] tn=(0,[]):=a9u
def a3y:eB.rows= [[1,5]]:=a9u
def a3z (a:eA ag.new ([hJ].map aS.bz) kf h3) (d:cO 1 [hJ]):h3.2.2=fW:=by
 unfold eA at a;rw[if_neg (show¬ea kf=false by decide+kernel),if_neg (show¬kf.kind=1 by decide),if_neg (show¬kf.kind=2 by decide),if_pos (show kf.kind=3 from rfl)]at a;unfold lE at a;have h:([hJ].map aS.bz).find? (λk=>decide (k.name=kf.table))=some hJ.bz:=by rfl
 rw[h]at a
 dsimp only at a
 rw[if_pos (show kf.row.length=hJ.bz.aC.length+1 from rfl)]at a;have b:=d.ok hJ a9q;rcases a with ⟨o,_⟩|⟨rows,p,_,a⟩
 .exact absurd o (zC (e:=2) (a8:= .nil) a9p a9p b.dA.fi a9t trivial)
 have r:=zE (e:=2) (a8:= .nil) a9p a9p b.dA.fi a9t trivial p;rcases a with ⟨c,a⟩|⟨c,a⟩
 .rw[a];exact a3x rfl rfl
 .exact absurd (r.2 λy x=>by cases x) c
def a3A: ∀ {a b:List Int},kP a b->bQ a<=bQ b
 |d::a,h::b,c=>by
  show d<=h;rcases c with c|c<;>omega
def eP.cmp (a:eP e j7):j7.rows.Pairwise λb c=> ¬fQ c b<0:=by refine a7Q ?_ a.dZ;intro b c h k o d;rw[r6 (by rw[(a.row h).len,(a.row k).len])]at d;have:=a3A d;omega
theorem GK (k:U) (x F G:Nat) (o:ag) (L:List aK) (W:cP k x F G o L) (P:Nat) (a:List aS) (y:cO P a) (e:P<=1000) (f:fV o L a) (c:List UInt8):
  AC Tryz.prog 27 [.ptr x 0,bd c] k λz S=>k.sub S/\(bZ a c<a.length-> ∃T,z= .aL [.J T .any,.v (.int .i64 0)]/\az isRow (a.getD (bZ a c) default).rows T)/\(a.length<=bZ a c->z= .aL [.J [] .nil,.v (.int .i64 3)]):=by
 obtain⟨rfl,g⟩:=f;have i:=y.cat e;have j: ∀b,a[bZ a c]? =some b-> ∃d,ek o (b.bz.aC.length+1) (b.bz.bK.size.toNat+1) b.bz.bK=some d/\b.rows.Perm d:=λb l=>by
  have hm:=a4O l;have p:=y.ok b hm;have s:=p.c;have t:=p.dA.cq;obtain⟨d,C,D⟩:=FA (e:=b.aC.length+1) a9p a9p p.dA.fi a9p (g b hm).1;exact⟨d,C,(D.trans p.gb).symm⟩
 refine(a2l k x F G o (a.map aS.bz) W i c (a.getD (bZ a c) default).rows ?_).mono λz S m=>⟨m.1,λn=> ?_,λn=> ?_⟩
 .intro b d h V;rw[pP]at h;cases r:a[bZ a c]? with
  |none=>rw[r]at h;cases h
  |some E=>
   rw[r]at h;obtain rfl:=a4G h;obtain⟨u,C,D⟩:=j E r;rw[C]at V;obtain rfl:=a4G V;have q:a.getD (bZ a c) default=E:=by grind
   rw[q];exact⟨D,(y.ok E (a4O r)).cmp⟩
 grind[vm,bZ,default,List.getD,pP];grind[vm,pP,List.getElem?_eq_none]
def a3B:rm.Fit:=cp.hI.fit (by unfold cp.hI;decide)
def a3C:kf.Fit:=cp.hI.fit (by unfold cp.hI;decide)
def a3D:pT.Fit:=cp.hI.fit (by unfold cp.hI;decide)
def a3E:pU.Fit:=cp.hI.fit (by unfold cp.hI;decide)
def a3F:tm.Fit:=cp.hI.fit (by unfold cp.hI;decide)
def a3G:tn.Fit:=cp.hI.fit (by unfold cp.hI;decide)
theorem A3:cK []:=λb a=>by cases a
theorem vB:cO 1 [hJ]:=by grind[rk,cO.nil,rm,A3,cg]
theorem GL:cK pT.row:=λa b=>by
 grind[pT]
theorem a3H:cK pU.row:=λa b=>by
 grind[pU]
theorem rn:cO 2 [eB]:=by grind[rk,vB,kf,c9]
def zQ (c:eA ag.new [] rm h3):h3=(0,[hJ].map aS.bz,ag.new)/\fV ag.new ([hJ].map aS.bz) [hJ]:=by
 have a:=GJ c (.inl rfl);have b:=pR c (cO.nil (n:=0)) a9p A3 (X:= []) ⟨rfl,λk h=>by cases h⟩ (by rw[a];rfl);rw[cg]at b;obtain⟨v,o,p⟩:=h3
 dsimp only at a b
 obtain⟨rfl,d⟩:=b;subst a;obtain rfl:=d.eq;exact⟨rfl,d⟩
def zR (d:eA ag.new ([hJ].map aS.bz) kf h3) (a:fV ag.new ([hJ].map aS.bz) [hJ]):h3=(0,[eB].map aS.bz,fW)/\fV fW ([eB].map aS.bz) [eB]:=by
 have b:=a3z d vB;have c:=pR d vB a9p A2.jU a (by rw[b];exact GI);rw[c9]at c;obtain⟨v,h,k⟩:=h3
 dsimp only at b c
 obtain⟨rfl,a⟩:=c;subst b;obtain rfl:=a.eq;exact⟨rfl,a⟩
def a3I (a:eA fW ([eB].map aS.bz) pT h3) (b:fV fW ([eB].map aS.bz) [eB]):h3=(8,[eB].map aS.bz,fW):=by have c:=A1 a rn a9p GL b (by rw[cW];decide);rwa[cW]at c
def a3J (a:eA fW ([eB].map aS.bz) pU h3) (b:fV fW ([eB].map aS.bz) [eB]):h3=(6,[eB].map aS.bz,fW):=by have c:=A1 a rn a9p a3H b (by rw[dY];decide);rwa[dY]at c
def a3K (a:eA fW ([eB].map aS.bz) tm h3) (b:fV fW ([eB].map aS.bz) [eB]):h3=(9,[eB].map aS.bz,fW):=by have c:=A1 a rn a9p GL b (by rw[gR];decide);rwa[gR]at c
def a3L (d:eA fW ([eB].map aS.bz) tn h3) (a:fV fW ([eB].map aS.bz) [eB]):h3=(0,[],fW)/\fV fW [] []:=by
 have b:=GJ d (.inr rfl);have c:=pR d rn a9p A3 a (by rw[b];exact GI);rw[ei]at c;obtain⟨v,h,k⟩:=h3
 dsimp only at b c
 obtain⟨rfl,a⟩:=c;subst b;obtain rfl:h= []:=a.eq;exact⟨rfl,a⟩
def GM:cA []=true:=(cO.nil (n:=0)).cat a9p
def a3M:cA ([hJ].map aS.bz)=true:=vB.cat a9p
def vC:cA ([eB].map aS.bz)=true:=rn.cat a9p
def a3N (a:Own):(⟨rm,a,.nil⟩:cf).V= .agg [.v (.int .u8 1),.v (.string ⟨#[116]⟩),.J [.v (.string ⟨#[97]⟩)] a,.J [] .nil]:=rfl
def a3O (a:Own):(⟨kf,.nil,a⟩:cf).V= .agg [.v (.int .u8 3),.v (.string ⟨#[116]⟩),.J [] .nil,.J [.v (.int .i64 1),.v (.int .i64 5)] a]:=rfl
def a3P (a:Own):(⟨pT,.nil,a⟩:cf).V= .agg [.v (.int .u8 3),.v (.string ⟨#[116]⟩),.J [] .nil,.J [.v (.int .i64 1),.v (.int .i64 6)] a]:=rfl
def a3Q (a:Own):(⟨pU,.nil,a⟩:cf).V= .agg [.v (.int .u8 3),.v (.string ⟨#[116]⟩),.J [] .nil,.J [.v (.int .i64 2),.v (.int .i64 3),.v (.int .i64 4)] a]:=rfl
def a3R (a:Own):(⟨tm,.nil,a⟩:cf).V= .agg [.v (.int .u8 4),.v (.string ⟨#[116]⟩),.J [] .nil,.J [.v (.int .i64 1),.v (.int .i64 6)] a]:=rfl
def a3S:(⟨tn,.nil,.nil⟩:cf).V= .agg [.v (.int .u8 2),.v (.string ⟨#[116]⟩),.J [] .nil,.J [] .nil]:=rfl
def GN:bd [116]= .v (.string ⟨#[116]⟩):=rfl
variable{Q b5 h4 j1 j6:Prop}
theorem rp (h:cP f e i v H b9) (b:cA b9=true) (a:cf) (k:a.d.Fit) (o:a.V=n) (p: ∀res,eA H b9 a.d res->res=h3/\Q):
  AC Tryz.prog 20 [.ptr e 0,n] f λc d=>c= .v (.int .i64 h3.1)/\cP d e i v h3.2.2 h3.2.1/\Q:=by
 subst o;exact(zG f e i v H b9 h (vy b) b a k).mono λc d ⟨res,r,x,y,z⟩=>by
  grind
def A4:Nat->dM->dM
 |0,a=>a
 |b+1,.seq _ c=>A4 b c
 | _+1,a=>a
variable{j:Fr}
def a3T (P:j 1= .ptr e 0) (S:j 2= .v (.int .i64 0)) (T:j 3= .v (.int .i64 0)) (V:j 4= .v (.int .i64 8)) (W:j 5= .v (.int .i64 6)) (g:j 6= .v (.int .i64 9)) (c:cP f e i v fW ([eB].map aS.bz)) (d:fV fW ([eB].map aS.bz) [eB]):
  bT (Ctx.of Tryz.prog) (A4 8 wA.code) (p4 [(0,none)] λz _=>z= .v (.bool true)) j f:=by
 simp only[wA,A4];refine aa ?_;have a:=GK f e i v fW _ c 2 _ rn a9p d [116];rw[GN]at a;refine ai a ?_;clear a;rintro _ fX ⟨k,b,_⟩;obtain⟨o,rfl,h⟩:=b a9t;have h:az isRow [[1,5]] o:=by rw[<-a3y];exact h
 have p:=c.sub k;clear c k b;refine aa ?_;refine ai (rp p vC ⟨tn,.nil,.nil⟩ a3G a3S λres C=>a3L C d) ?_;rintro _ D ⟨rfl,r,x⟩;clear p d;refine aa ?_;have a:=GK D e i v fW _ r 0 [] cO.nil a9p x [116];rw[GN]at a;refine ai a ?_;clear a;rintro _ l ⟨E,_,b⟩;obtain rfl:=b a9t;clear r x b E;refine aa ?_;refine cI U.a1 (by simp[aN,R.cells]) λy m n=> ?_;refine aa ?_;refine cI U.a1 (by simp[aN,R.cells]) λF q s=> ?_;refine aa ?_;have G:=λL=>Z2 [[1,5]] [[1,5]] o [.J [.v (.int .i64 1),.v (.int .i64 5)] y] .any F L h ⟨⟨y,rfl⟩,trivial⟩ a9q a9q;refine bj (G _) ?_;exact⟨_,U.a1⟩
def a3U (c:U):AC Tryz.prog 8 [] c λS W=>S= .v (.bool true):=by refine aO hm JO ?_;generalize T:dM.seq (dM.plain (aB 36 1:: _)) _=e;refine ai (FT c) ?_;rintro _ f ⟨g,i,j,rfl,-,-,-,-,d⟩;refine aa ?_;refine cI U.a1 (by simp[aN,R.cells]) λh l k=> ?_;refine aa ?_;refine ai (rp (d.sub k.sub) GM ⟨rm,h,.nil⟩ a3B (a3N h) λres a=>zQ a) ?_;rintro _ m ⟨rfl,o,p⟩;clear k d;refine aa ?_;refine cI U.a1 (by simp[aN,R.cells]) λr n x=> ?_;refine aa ?_;refine ai (rp (o.sub x.sub) a3M ⟨kf,.nil,r⟩ a3C (a3O r) λres a=>zR a p) ?_;rintro _ q ⟨rfl,y,b⟩;clear x o p;refine aa ?_;refine cI U.a1 (by simp[aN,R.cells]) λz s C=> ?_;refine aa ?_;refine ai (rp (y.sub C.sub) vC ⟨pT,.nil,z⟩ a3D (a3P z) (Q:=True) λres a=>⟨a3I a b,trivial⟩) ?_;rintro _ t ⟨rfl,D,-⟩;clear C y;refine aa ?_;refine cI U.a1 (by simp[aN,R.cells]) λE u F=> ?_;refine aa ?_;refine ai (rp (D.sub F.sub) vC ⟨pU,.nil,E⟩ a3E (a3Q E) (Q:=True) λres a=>⟨a3J a b,trivial⟩) ?_;rintro _ v ⟨rfl,G,-⟩;clear F D;refine aa ?_;refine cI U.a1 (by simp[aN,R.cells]) λL w P=> ?_;refine aa ?_;refine ai (rp (G.sub P.sub) vC ⟨tm,.nil,L⟩ a3F (a3R L) (Q:=True) λres a=>⟨a3K a b,trivial⟩) ?_;rintro _ A ⟨rfl,V,-⟩;clear P G;refine aa ?_;subst T;exact a3T rfl rfl rfl rfl rfl rfl V b
structure rq (a b:U) (c gD d W:Nat) (h:ag) (l:List aK) (cB:List aS) (n:Nat):Prop where
 kV:vA b c gD d W h l cB n
 sub:a.sub b
 GO:a c=none
 GP:a gD=none
 GQ:a d=none
 xS:a W=none
def rq.step {D E x y:U}{h k o p z:Nat}{C:ag}{F:List aK}{r:List aS} (a:rq D E h k o p C F r z) (T:z<900) {d:cp} (V:cK d.row) {c:Int×List aK×ag} (W:eA C F d c)
  (e:cP x h k o c.2.2 c.2.1) (G:cy h k o E x) (f:fE y p (ed r d).2) (L:ee p x y):rq D y h k o p c.2.2 c.2.1 (ed r d).2 (z+1)/\C.le c.2.2/\(c.2.2.one=false->c.1=(ed r d).1):=by
 obtain⟨g,i,j⟩:=a.kV.step T V W e G f L;refine⟨⟨g,λP S b=>L P S ?_ (G P S ?_ ?_ ?_ (a.sub _ _ b)),a.GO,a.GP,a.GQ,a.xS⟩,i,j⟩
 .rintro rfl;rw[a.xS]at b;cases b
 .rintro rfl;rw[a.GO]at b;cases b
 .rintro rfl;rw[a.GP]at b;cases b
 .rintro rfl;rw[a.GQ]at b;cases b
theorem a3V (o:List cf) (n:Own) (C:U) (q: ∀V∈o,V.d.hI/\cK V.d.row) (Z:o.length<=9223372036854775807):
  AC Tryz.prog 10 [.J (jx o) n] C λe G=>e= .aL [.v (.pointer none),.v (.pointer none)]\/ ∃c p r W d x F f,e= .aL [.ptr c 0,.ptr W 0]/\f<=40/\d.one=false/\rq C G c p r W d x F f:=by
 have j9:=rl (a:=o);refine aO hm JS ?_;refine ai (FT C) ?_;rintro _ s ⟨c,p,r,rfl,L,t,u,v,w⟩;refine aa ?_;refine aP λW P=> ?_;have A:=w.sub (U.ae (Y:= .cells [.J [] .nil]) U.a1 P);have a:rq C (s.set W (.cells [.J [] .nil])) c p r W ag.new [] [] 0:=⟨⟨A,GM,⟨[],.nil,U.ah _ _ _,trivial⟩,cO.nil,λ_=>⟨rfl,λk0 S=>by cases S⟩⟩,U.ae L (U.bF L P),t,u,v,U.bF L P⟩;refine aa ?_;refine ch [0,4,5] (λh:Nat×ag×List aK×List aS=> [(6,.v (.int .i64 (h.1:Int)))]) (λh G=>h.1<=40/\h.1<=o.length/\rq C G c p r W h.2.1 h.2.2.1 h.2.2.2 h.1) (λh=>40 - h.1) (0,ag.new,[],[]) ⟨⟨a9q,a5o _,a⟩,aU⟩ ?_;rintro⟨z,d,x,F⟩ D ⟨B,H,a⟩ k1
 dsimp only at B H a|-
 refine aa ?_;refine aH (λI=> ?_) λI=> ?_
 .refine aH (λaM=> ?_) λaM=> ?_
  .have g:z<o.length:=a9p;have i:o[z]? =some o[z]:=a4H g;have k2:=vx i;obtain⟨j,l⟩:=q _ (a4O i);generalize o[z]=k at*;have K:=zG D c p r d x a.kV.st (vy a.kV.cat) a.kV.cat k j.fit;have M:=λy S=>Gy y W z F S a.kV.inv a9p k j.fit l;have k3:k.C.length=4:=rfl;have k4:(.agg (k.C.take 4):R)=k.V:=rfl;have k5:aY true 4 k.C=k.V:=rfl;generalize k.C=k6 at*;generalize k.V=k7 at*;refine aa ?_;refine ai K ?_;rintro _ y ⟨res,N,rfl,O,m⟩;refine aa ?_;refine ai (M y (a.kV.rs.mv (m.rs a.kV.st))) ?_;rintro _ k8 ⟨Q,X,rfl⟩;obtain⟨Y,k9,l0⟩:=a.step a9p l N O m Q X;refine aa ?_;exact⟨(z+1,res.2.2,res.2.1,(ed F k.d).2),⟨by simp only;omega,g,Y⟩,rfl,by simp only;omega⟩
  .cases E:d.one with
   |true=>have b:=tk D c p r d x a.kV.st;rw[E]at b;refine ai b ?_;rintro _ y ⟨T,rfl⟩;refine aa ?_;grind
   |false=>have b:=tk D c p r d x a.kV.st;rw[E]at b;refine ai b ?_;rintro _ y ⟨T,rfl⟩;refine aa ?_;grind
 .cases E:d.one with
  |true=>have b:=tk D c p r d x a.kV.st;rw[E]at b;refine ai b ?_;rintro _ y ⟨T,rfl⟩;refine aa ?_;grind
  |false=>have b:=tk D c p r d x a.kV.st;rw[E]at b;refine ai b ?_;rintro _ y ⟨T,rfl⟩;refine aa ?_;grind
def A5 {b:List cp} (a:mu H b9 b h3):H.le h3.2.2:=by
 induction a with
 |nil H b9=>exact ag.le_refl
 |stop a _=>exact zZ a
 |step a _ _ ih=>exact(zZ a).trans ih
theorem GR: ∀ {a:List cp}{d:Nat}{b:List aS},cO d b->d+a.length<900->(∀c∈a,cK c.row)->(jy b a).1=0->cO (d+a.length) (jy b a).2
 | [],d,b,h,_,_,_=>h
 |c::a,d,b,h,p,o,k=>by
  rw[a4M]at p|-;rw[jy]at k|-;by_cases r:(ed b c).1=0
  .rw[if_pos r]at k|-;have:=GR (rk h a9p (o c a9q)) a9p (λc x=>o c (by simp[x])) k;grind
  grind
def a3W {a:List cp} (b:cO e X) (c:e+a.length<900) (d: ∀h∈a,cK h.row):cO (e+a.length) (kU X a).2:=by
 unfold kU;split
 .rename_i k;exact GR b c d k
 .exact b.le a9p
theorem a3X {d:List cp} (h:mu H b9 d h3): ∀ {r:Nat}{b:List aS},cO r b->r+d.length<900->(∀a∈d,cK a.row)->fV H b9 b->h3.2.2.one=false->h3.1=(jy b d).1/\(h3.1=0->fV h3.2.2 h3.2.1 (jy b d).2):=by
 induction h with
 |nil H b9=>exact λk x c o p=>⟨rfl,λ_=>o⟩
 | @stop H b9 a z h3 h F=>intro r b k x c o p;rw[a4M]at x;obtain⟨y,_⟩:=pR h k a9p (c a a9q) o p;simp_all [jy,if_neg,absurd]
 | @step H b9 a z h3 G h he C ih=>intro r b k x c o p;rw[a4M]at x;obtain⟨y,D⟩:=pR h k a9p (c a a9q) o ((A5 C).zero p);rw[jy,if_pos (by rw[<-y];exact he)];exact ih (rk k a9p (c a a9q)) a9p (λa E=>c a (by simp[E])) D p
theorem a3Y {a:List cp} (b:mu H b9 a h3) (k:cO e X) (o:e+a.length<900) (p: ∀r∈a,cK r.row) (c:fV H b9 X) (x:h3.2.2.one=false):
  h3.1=(kU X a).1/\fV h3.2.2 (if h3.1=0 then h3.2.1 else b9) (kU X a).2:=by
 obtain⟨d,y⟩:=a3X b k o p c x;unfold kU;by_cases h:h3.1=0;simp_all
 .rw[if_neg h,if_neg (by rw[<-d];exact h)];exact⟨d,c.mono (A5 b)⟩
theorem a3Z (h a:List cf) (z p:Own) (S:h.length<=9223372036854775807) (s:a.length<=9223372036854775807) (t: ∀b∈h,cK b.d.row) (u: ∀b∈a,cK b.d.row) (r:U):
  AC Tryz.prog 6 [.J (jx h) z,.J (jx a) p] r λv _=>v= .v (.bool true):=by
 have l2:=rl (a:=h);have l3:=rl (a:=a);refine aO hm JN ?_;refine ai (a3U r) ?_;rintro _ k rfl;refine aa ?_;refine ai (GH h z k S) ?_;rintro _ k ⟨rfl,C,rfl,T⟩;cases C with
 |true=>refine aa ?_;exact⟨_,U.a1⟩
 |false=>
  obtain⟨l4,w⟩:=T rfl;refine aa ?_;refine ai (GH a p k s) ?_;rintro _ k ⟨rfl,C,rfl,V⟩;cases C with
  |true=>refine aa ?_;exact⟨_,U.a1⟩
  |false=>
   obtain⟨l5,e⟩:=V rfl;refine aa ?_;refine aH (λA=> ?_) λA=> ?_
   .exact⟨_,U.a1⟩
   clear T V;refine ai (a3V h z k (λb d=>⟨w b d,t b d⟩) S) ?_;rintro _ B (rfl|⟨D,E,F,W,H,f,g,I,rfl,l6,K,M⟩)
   .refine aa ?_;exact⟨_,U.a1⟩
   refine aa ?_;have c:=M.kV;have N:=c.rep K;refine ai (a3t B D E F H f c.st c.cat a p (λb d=>(e b d).fit) a9p) ?_;rintro _ O ⟨res,i,rfl,Q,j⟩;have l: ∀m∈a.map cf.d,cK m.row:=λm l7=>by
    grind
   have X:(a.map cf.d).length=a.length:=a4T _;have l8:=A5 i;refine aa ?_;refine ai (a3p O W I g (c.rs.mv (j.rs c.st)) c.inv a p a9p λb d=>⟨(e b d).fit,u b d⟩) ?_;rintro _ Y ⟨Z,j9,rfl⟩;have G:=Q.GG (c.rs.mv (j.rs c.st)) j9;have o:=a3W c.inv (a:=a.map cf.d) a9p l;rw[X]at o;have x:=tk Y D E F _ _ G;cases L:res.2.2.one with
   |true=>rw[L]at x;refine aa ?_;refine ai x ?_;rintro _ n ⟨P,rfl⟩;refine aa ?_;exact⟨_,U.a1⟩
   |false=>rw[L]at x;obtain⟨l9,k0⟩:=a3Y i c.inv (a:=a.map cf.d) a9p l N L;refine aa ?_;refine ai x ?_;rintro _ n ⟨P,rfl⟩;generalize kU g (a.map cf.d)=y at*;have k1:(if res.1=0 then res.2.1 else f)=y.2.map aS.bz:=k0.eq;rw[k1]at G;have k2:=G.sub P;have q:=o.cat a9p;refine aa ?_;refine ai (a2f n D E F _ _ k2 (vy q) q (a3v o a9p)) ?_;rintro _ k3 ⟨k4,k5,k6,rfl,k7⟩;refine aa ?_;refine ai (a3u k3 W _ y.2 (Z.sub (U.aq P k4)) o a9p) ?_;rintro _ n0 ⟨n1,k8,k9,rfl,l0⟩;have l1:=λr=>ZJ (y.2.map aS.bz) (y.2.map aS.bz) k5 k8 k6 k9 r k7 l0 (by have:=o.dH;rw[a4T];omega);refine aa ?_;refine bj (l1 _) ?_;exact⟨_,U.a1⟩
end Go.Proofs.YtlgnfcaolejgeaaGreat
