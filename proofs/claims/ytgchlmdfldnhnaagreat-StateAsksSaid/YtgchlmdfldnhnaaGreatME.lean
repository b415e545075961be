import Derived.Test.YtgchlmdfldnhnaaGreatMD
import Derived.Test.YtgchlmdfldnhnaaGreatMC
set_option linter.all false
open Option renaming some->γ,none->η
open Go.Proofs.Tryz renaming prog->δ
open Bool renaming true->ζ,false->κ
open List renaming replicate->θ,range->ψ,length_append->Ζ,getElem?_eq_some_iff->Η,take_of_length_le->Λ,length->β
open Go.bw.U renaming a1->ι,ad->μ,ae->ν,ah->ξ,al->ο,ao->π,set_set->υ,aO->ω,bH->Ν
open Go.Proofs.YtgchlmdfldnhnaaGreat.isRow renaming cells->ρ
open BitVec renaming ofInt->ς
open Go.bw.R renaming cells->τ
open UInt8 renaming ofNat->φ
open Prod renaming fst->Α
open Go.Proofs.YtgchlmdfldnhnaaGreat.Ext renaming of->Γ
open Go.Proofs.YtgchlmdfldnhnaaGreat.bA renaming cells->Ξ
set_option maxRecDepth 100000
namespace Go.Proofs.YtgchlmdfldnhnaaGreat
open Go Go.bw
variable{b9:FuncId}{j B b7:ύ}
theorem a0L(a:List Ω)(y:ύ)(h:R)(d:U)(z:aw isRow a y)(C:bL d 1 h y)(u:β a<=1000000000000){f:Ω->Bool}(D:hA isRow d b9 j B f):
  AC δ 189 [h,.bG b9 j B] d λW k=>k=d/\∃E:Int,W=.v (.int .i64 E)/\decide (0<=E)=a.any f:=by
 refine bh hm RB σ ?_;have e:=z.len;have g:=C.len;rw[e]at g;refine aa ?_;refine cZ (λc k=>∃b:Nat,b<=β a/\k=d/\c 0=h/\c 1=.bG b9 j B/\c 7=.v (.int .i64 (β a))/\c 8=.v (.int .i64 b)/\(a.take b).any f=κ)
  (λc _=>match c 8 with|.v (.int _ i)=>β a - i.toNat|_=>0) ⟨0,ε,rfl,?_⟩ ?_
 .refine aa ?_;simp
 rintro c o⟨b,v,rfl,F,G,L,P,S⟩;by_cases T:(b)<(β a:Int)
 .have p:a[b]?=γ a[b]:=Τ ε;have l:a.take (b+1)=a.take b++[a[b]]:=by rw[a8E,p];rfl
  have m:a[b]'ε∈a:=a8b _;generalize a[b]'ε=V at p l m;obtain⟨r,n,x⟩:=z.get p;obtain⟨q,w,s⟩:=C.get b r n;have A:cO κ 1 o q=γ r:=by have t:=s.ld o ι κ 1 ε (by rw[ρ x];omega);rw[t];obtain⟨H,rfl⟩:=x;rfl
  refine aa ?_;refine fa D.1 (D.2 V r _ x ι) ?_;rintro _ o⟨rfl,rfl⟩;cases I:f V with
  |true=>refine an (aZ @F @G @L @P @T) ?_;refine⟨_,ι,rfl,_,rfl,?_⟩;grind
  |false=>refine aa ?_;grind
 .obtain rfl:b=β a:=ε;refine an (aZ @F @G @L @P @T) ?_;rw[a8c]at S;exact⟨_,ι,rfl,_,rfl,by rw[S];simp⟩
def F3(b:List Ω)(c:ύ)(d:R)(a:U)(h:aw isRow b c)(k:bL a 1 d c)(o:β b<=1000000000000){f:Ω->Bool}(p:hA isRow a b9 j B f):
  AC δ 117 [d,.bG b9 j B] a λr x=>x=a/\r=.v (.bool (b.any f)):=by
 refine bh hm Pz σ ?_;refine aa ?_;refine ak (a0L b c d a h k o p) ?_;rintro _ z⟨rfl,C,rfl,y⟩;refine bU ?_;exact⟨_,ι,rfl,by rw[y]⟩
def a0M(c:Int)(b:Ω)(d:R)(p:isRow b d)(a:U)(f:Nat)(h:a.read f=γ [.v (.int .i64 c)]):
  AC δ 170 [d,.ptr f 0] a λr x=>x=a/\r=.v (.bool (!decide ((β b:Int)=c))):=by
 obtain⟨y,rfl⟩:=p;refine bh hm R0 σ ?_;have k:=bn (n:=b);by_cases o:(β b)=c
 .refine an (aD @k @h @o) ?_;exact⟨a,ι,by simp[]⟩
 .refine an (aD @k @h @o) ?_;exact⟨a,ι,by simp[]⟩
def rA(a:Int)(b:List Ω):Bool:=decide (1<=a)&&decide (a<=8)&&b.all λc=>decide ((β c:Int)=a)
theorem F4(a:Int)(c:List Ω)(d:ύ)(f:R)(b:U)(r:aw isRow c d)(x:bL b 1 f d)(y:β c<=1000000000000):
  AC δ 108 [.v (.int .i64 a),f] b λz h=>h=b/\z=.v (.bool (rA a c)):=by
 refine bh hm Pg σ ?_;refine aa ?_;refine aR λk C=>?_;have o:=ν (b0:=.cells [.v (.int .i64 a)]) (ι) C;have c2:(b.set k (.cells [.v (.int .i64 a)])) k=γ (.cells [.v (.int .i64 a)]):=ξ _ _ _;unfold rA;by_cases h1:1<=a
 .by_cases p:a<=8
  .refine aa ?_;refine ak (F3 c d f _ r (x.mono o) y (b9:=170) ⟨by rfl,λD E h F G=>a0M a D E F h k (μ (G _ _ c2))⟩) ?_;rintro _ _⟨rfl,rfl⟩;refine bU ?_;refine⟨b,o,rfl,?_⟩;rw[List.any_eq_not_all_not];simp[h1,p]
  .simp -dsimp -implicitDefEqProofs (disch:=first|omega|assumption|(simp only[bd,Nat.reduceAdd];try omega)) only[go_sem,simprocAttr,-List.reduceReplicate,h1,p];simp_all
 .refine an @h1 ?_;simp_all
theorem yL(a:Nat)(f:a<=1000000000000)(b:U):AC δ 184 [.v (.int .i64 (a:Int))] b λc d=>d=b/\c=.v (.int .i64 (a6.bV a:Int)):=by refine bh hm Rs σ ?_;refine bU ?_;refine⟨b,ι,rfl,?_⟩;grind[a6.bV,wrap_i64]
def dL(a:af)(c:Nat)(b:bO):Except Int aj×af:=
 match ga c b with
 |none=>(.error 1,a)
 |some d=>(.ok d,fc a (dX b))
def ec(a:List Ω):bO:=⟨2,a.map λb=>(b,ζ),[]⟩
def ei(a:List aj):bO:=⟨3,[],a⟩
abbrev ej(a b:Nat):R:=.agg [.ptr a 0,.v (.int .i64 (b:Int))]
def hC(d:Except Int aj)(b:R):Prop:=
 match d with
 |.error c=>c≠0/\b=.aJ [.agg (ag aG .nil .nil .nil),.v (.int .i64 c)]
 |.ok a=>β a.sum=32/\a.cL/\∃f h k,b=.aJ [.agg (ag a f h k),.v (.int .i64 0)]
variable{s b8:R}
theorem hC.shape{c:Except Int aj}(d:hC c s):∃a f h k b,β a.sum=32/\s=.aJ [.agg (ag a f h k),.v (.int .i64 b)]:=by
 cases c with
 |error b=>exact⟨aG,_,_,_,b,bo,d.2⟩
 |ok a=>obtain⟨o,_,f,h,k,p⟩:=d;grind
variable{g w h7:U}{e i t I b3 e5:Nat}{H:af}
def bz.cI(a:bz g i t H)(b:g e=η):e≠i/\e≠t:=by
 refine⟨?_,?_⟩
 .rintro rfl;obtain⟨_,_,a⟩:=a.at_;rw[a]at b;cases b
 .rintro rfl;obtain⟨_,⟨_,_,a,_⟩,_⟩:=a.mp;rw[a]at b;cases b
theorem bz.set{d:U}{a b c:Nat}{f:af}{ob:bq}(k:bz d a b f)(h:c≠a/\c≠b):bz (d.set c ob) a b f:=k.other (ο _ _ (Θ h.1)) (ο _ _ (Θ h.2))
def yM(d:U)(f h:Nat)(k:af)(z:bz d f h k)(c:bO)(C D:ύ)(p r:R)(b:Nat)(F:1<=b)(x:b<=8)(G:gB d c p r C D):
  AC δ 171 [.ptr f 0,kk c p r,.v (.int .i64 (b:Int))] d λE y=>bz y f h (dL k b c).2/\Ext f h d y/\hC (dL k b c).1 E:=by
 refine(a0z d f h k z c C D p r b F x G).mono λE y a=>?_;unfold dL;cases o:ga b c with
 |none=>rw[o]at a;exact⟨z.mono a.1,Γ a.1,Μ,a.2⟩
 |some L=>rw[o]at a;exact⟨a.1,a.2.1,(vi x o).1,EJ x o,a.2.2⟩
theorem yN(C:U)(D W:Nat)(e:af)(X:bz C D W e)(c:List Ω)(f:ύ)(q:R)(r:Nat)(n9:1<=r)(a00:r<=8)(g:aw isRow c f)(Y:bL C 1 q f)(a01:β c<=100000):
  AC δ 110 [ej D r,q] C λp x=>bz x D W (dL e r (ec c)).2/\Ext D W C x/\hC (dL e r (ec c)).1 p:=by
 refine bh hm Pl σ ?_;have s:∀Z,(R.agg Z).cells=Z:=λ_=>rfl;have a02:∀a b h k k2 S:R,putAt [a,b,h] 0 [k,k2,S]=[k,k2,S]:=λ_ _ _ _ _ _=>rfl;have a03:∀a b h k:R,putAt [a,b,h] 0 [k]=[k,b,h]:=λ_ _ _ _=>rfl;have a04:∀a b h k:R,putAt [a,b,h] 1 [k]=[a,k,h]:=λ_ _ _ _=>rfl;have k3:∀a b h:R,[a,b,h].length=3:=λ_ _ _=>rfl;have a56:∀a b h:R,List.take 3 [a,b,h]=[a,b,h]:=λ_ _ _=>rfl;have k4:=Y.len;rw[g.len]at k4;refine aa ?_;refine aR λP a05=>?_;refine aa ?_;refine aR λL i=>?_;refine aa ?_;refine aR λE T=>?_;have t:P≠L:=by rintro rfl;rw[ξ]at i;cases i
 have a06:L≠E:=by rintro rfl;rw[ξ]at T;cases T
 have a07:P≠E:=by rintro rfl;rw[ο _ _ t,ξ]at T;cases T
 have u:C L=none:=by rw[ο _ _ (Θ t)]at i;exact i
 have a57:C E=none:=by simp_all [ο,Θ]
 obtain⟨F,V⟩:∃F:U,F=(C.set P (.cells [.ptr D 0,.v (.int .i64 (r))])).set L (.cells (ag aG .nil .nil .nil)):=⟨_,rfl⟩;have k5:C.sub F:=by rw[V];exact ν (ν ι a05) u
 have c2:F P=γ (.cells [.ptr D 0,.v (.int .i64 (r))]):=by rw[V,ο _ _ t,ξ]
 have aL:F L=γ (.cells (ag aG .nil .nil .nil)):=by rw[V,ξ]
 have k6:F E=none:=by rw[V];exact T
 have a08:=(aV (a7:=.nil) (h5:=.nil) (j1:=.nil) bo).len;refine an (cr @s @cB @a03 @k3 @a02 @υ @k4) ?_;rw[<-V]
 let o:R->R:=λa=>.agg [a,.v (.bool ζ)];have k7:∀d,aw dR ((c.take d).map λp=>(p,ζ)) ((f.take d).map o):=by
  have:∀(c)(f),aw isRow c f->aw dR (c.map λp=>(p,ζ)) (f.map o):=by
   intro c
   induction c with
   |nil=>intro f y;cases f with
    |nil=>trivial
    |cons=>exact y.elim
   |cons k c ih=>intro f y;cases f with
    |nil=>exact y.elim
    |cons a f=>exact⟨by obtain⟨G,rfl⟩:=y.1;exact⟨G,rfl⟩,ih f y.2⟩
  exact λd=>this _ _ (g.take d)
 have a61:∀d,((f.take d).map o).length<=100000:=λd=>by rw[a7Q,a7z,g.len];omega
 have k8:∀ {x:U}{h c G},bk (F.set E (.cells h)) x 2 c G->x P=γ (.cells [.ptr D 0,.v (.int .i64 (r))])/\x L=γ (.cells (ag aG .nil .nil .nil))/\x E=γ (.cells h):=λy=>⟨y.sub _ _ (by rw[ο _ _ a07];exact c2),y.sub _ _ (by rw[ο _ _ a06];exact aL),y.sub _ _ (ξ _ _ _)⟩;refine cZ (λz x=>∃(d:Nat)(G:Own),d<=β c/\bk (F.set E (.cells [.v (.int .u8 2),.J ((f.take d).map o) G,.J [] .nil])) x 2 ((f.take d).map o) G/\
   z 2=.ptr P 0/\z 4=.ptr L 0/\z 6=.ptr E 0/\z 10=q/\z 11=.v (.int .i64 (β c))/\z 12=.v (.int .i64 d))
  (λz _=>match z 12 with|.v (.int _ a09)=>β c - a09.toNat|_=>0) ⟨0,.nil,ε,?_,?_⟩ ?_
 .rw[show(f.take 0).map o=[]from rfl,υ];exact bk.nil ι
 .exact aK
 rintro z v⟨d,G,a62,j,l,m,n,w,A,B⟩;obtain⟨a10,a11,k9⟩:=k8 j;by_cases l0:(d:Int)<β c
 .have l1:c[d]?=γ c[d]:=Τ ε;generalize c[d]'ε=p at l1;obtain⟨a,l2,H,rfl⟩:=g.get l1;obtain⟨a63,a13,a14⟩:=(Y.mono (π k5 (π (ν ι k6) j.sub))).get d _ l2;have l3:=a14.ld v ι κ 1 ε (by simp[τ]);have a15:aX κ 1 (R.J (ab p) H).cells=.J (ab p) H:=rfl;rw[a15]at l3;have a16:(f.take (d+1)).map o=(f.take d).map o++[.agg [.J (ab p) H,.v (.bool ζ)]]:=by rw[a8E,l2,a8r];rfl
  have a18:∀a b h:R,aX κ 1 ([a,b,h].drop 1)=b:=λ_ _ _=>rfl;have a19:∀a b k:R,putAt [a,b] 0 [k]=[k,b]:=λ_ _ _=>rfl;have a27:∀a b k:R,putAt [a,b] 1 [k]=[a,k]:=λ_ _ _=>rfl;have a29:∀a b:R,[a,b].length=2:=λ_ _=>rfl;have a30:∀b:Bool,(R.v (.bool b)).cells=[.v (.bool b)]:=λ_=>rfl;have l4:∀(S)(l5),(R.J S l5).cells=[.J S l5]:=λ_ _=>rfl;refine an (oP @l @m @n @w @A @B @l0 @a13 @l3 (μ k9) @a18 @a19 @a27 @a29 @a30 @l4) ?_;refine eF ι (by simp[ba,τ]) λa65 a68 a34=>?_;refine aa ?_;refine ef (j.mono a34.sub) ((k7 d).cells λ_ _=>dR.cells) (by simp[ba,τ]) (by grind) (by grind) λl6 a69 I=>?_;rw[<-a16]at I|-;obtain⟨a71,l7,a36⟩:=k8 I;refine an (cw @l @m @n @w @A @B (ω a36) @l4 @a04 @k3) ?_;have l8:=I.set (ob:=.cells [.v (.int .u8 2),.J ((f.take (d+1)).map o) l6,.J [] .nil]) (ξ _ _ _);rw[υ]at l8;exact⟨⟨d+1,l6,ε,l8,σ⟩,ε⟩
 .obtain rfl:d=β c:=ε;have a38:∀a b h,aX ζ 3 [a,b,h]=.agg [a,b,h]:=λ_ _ _=>rfl;have K:=k7 (β c);rw[a8c]at K;have l9:=π k5 (π (ν ι k6) j.sub);have a42:gB v (ec c) (.J ((f.take (β c)).map o) G) (.J [] .nil) ((f.take (β c)).map o) []:=by
   refine⟨K,trivial,bL.J (K.cells λ_ _=>dR.cells),bL.J (by simp[ba]),?_,?_⟩
   .simp only[ec,a7Q];exact a01
   .simp[ec]
  refine an (gZ @l @m @n @w @A @B @l0 (μ a10) (μ k9) @a38 @s) ?_;have a43:=yM v D W e (X.mono l9) (ec c) _ _ _ _ r n9 a00 a42;refine ak a43 ?_;rintro p a73⟨a47,n0,n2⟩;have M:=X.cI u;have l7:=n0 _ _ M.1 M.2 a11;obtain⟨n3,N,O,Q,a74,n4,rfl⟩:=n2.shape;have n5:=aV (a7:=N) (h5:=O) (j1:=Q) n4;have a48:=n5.len;have a52:putAt (ag aG .nil .nil .nil) 0 (ag n3 N O Q)=ag n3 N O Q:=cT bo n4;refine an (dz @l @m @n @s (ω l7) @a52 @a48 @a08 n5.t37) ?_;exact⟨_,ι,a47.set M,((Γ l9).trans n0).set u,n2⟩
def F5(a:U)(d r:Nat)(x:af)(V:bz a d r x)(f:List aj)(C:ύ)(D:R)(b:Nat)(v:1<=b)(w:b<=8)(A:aw bA f C)(W:bL a 37 D C)(B:β f<=100000):
  AC δ 181 [ej d b,D] a λe g=>bz g d r (dL x b (ei f)).2/\Ext d r a g/\hC (dL x b (ei f)).1 e:=by
 refine bh hm Rm σ ?_;have i:∀j,(R.agg j).cells=j:=λ_=>rfl;have H:∀h c k p:R,putAt [h,c,k] 0 [p]=[p,c,k]:=λ_ _ _ _=>rfl;have I:∀h c k p:R,putAt [h,c,k] 2 [p]=[h,c,p]:=λ_ _ _ _=>rfl;have K:∀h c k:R,[h,c,k].length=3:=λ_ _ _=>rfl;have M:=(aV (a7:=.nil) (h5:=.nil) (j1:=.nil) bo).len;refine aa ?_;refine aR λl N=>?_;refine aa ?_;refine aR λy z=>?_;have m:l≠y:=by rintro rfl;rw[ξ]at z;cases z
 have E:a y=none:=by rw[ο _ _ (Θ m)]at z;exact z
 obtain⟨o,F⟩:∃o:U,o=(a.set l (.cells [.ptr d 0,.v (.int .i64 (b))])).set y (.cells (ag aG .nil .nil .nil)):=⟨_,rfl⟩;have G:a.sub o:=by rw[F];exact ν (ν ι N) E
 have aL:o y=γ (.cells (ag aG .nil .nil .nil)):=by rw[F,ξ]
 refine an (dz @i @cB @H @I @K W.one @ο @m @ξ) ?_;rw[<-F];have O:gB o (ei f) (.J [] .nil) D [] C:=⟨trivial,A,bL.J (by simp[ba]),W.mono G,by simp[ei],B⟩;refine ak (yM o d r x (V.mono G) (ei f) _ _ _ _ b v w O) ?_;rintro e k2⟨Q,n,q⟩;have L:=V.cI E;have X:=n _ _ L.1 L.2 aL;obtain⟨s,P,S,T,k3,t,rfl⟩:=q.shape;have u:=aV (a7:=P) (h5:=S) (j1:=T) t;have Y:=u.len;have Z:putAt (ag aG .nil .nil .nil) 0 (ag s P S T)=ag s P S T:=cT bo t;refine an (bt @i (ω X) @Z @Y @M u.t37) ?_;exact⟨_,ι,Q.set L,((Γ G).trans n).set E,q⟩
def yO(a:bO)(w A:ύ)(o y:R)(p:U)(L:gB p a o y w A):
  AC δ 174 [kk a o y] p λc T=>∃d,aw isRow (a.rows.map Α) d/\aq p T 1 (flat d) c:=by
 refine bh hm R8 σ ?_;have P:∀g,(R.agg g).cells=g:=λ_=>rfl;have B:=L.eg;have k8:=L.lf;refine an @P ?_;refine aR λS H=>?_;obtain⟨r,V⟩:∃r:U,r=p.set S (.cells [.v (.int .u8 (a.kind.toNat)),o,y]):=⟨_,rfl⟩;have i:p.sub r:=by rw[V];exact ν ι H
 have k9:r S=γ (.cells [.v (.int .u8 (a.kind.toNat)),o,y]):=by rw[V,ξ]
 have I:=L.mI.mono i;refine an (aD @P @ξ @B) ?_;rw[show p.set S (.cells (kk a o y).cells)=r from V.symm];refine cZ (λh T=>∃(b:Nat)(c:R)(d:ύ),b<=β a.rows/\aw isRow ((a.rows.take b).map Α) d/\aq r T 1 (flat d) c/\h 1=.ptr S 0/\h 3=c/\h 7=o/\h 8=.v (.int .i64 (β a.rows))/\h 9=.v (.int .i64 b))
  (λh _=>match h 9 with|.v (.int _ K)=>β a.rows - K.toNat|_=>0) ⟨0,.J [] .nil,[],ε,trivial,aq.nil ι,?_⟩ ?_
 .exact nQ
 rintro h M⟨b,c,d,l0,z,W,C,D,E,F,G⟩;by_cases j:(b:Int)<β a.rows
 .have e:a.rows[b]?=γ a.rows[b]:=Τ ε;have l:a.rows.take (b+1)=a.rows.take b++[a.rows[b]]:=by rw[a8E,e];rfl
  generalize a.rows[b]'ε=f at e l;obtain⟨x,N,k,rfl⟩:=L.rows.get e;obtain⟨l1,O,Q⟩:=I.get b _ N;have m:=Q.ld M W.1 ζ 2 ε (by simp[τ]);have X:aX ζ 2 (R.agg [.J (ab f.1) k,.v (.bool f.2)]).cells=.agg [.J (ab f.1) k,.v (.bool f.2)]:=rfl;have n:∀c x q s:R,putAt [c,x] 0 [q,s]=[q,s]:=λ_ _ _ _=>rfl;have t:∀c x:R,[c,x].length=2:=λ_ _=>rfl;have Y:∀c x:R,aX κ 1 [c,x]=c:=λ_ _=>rfl;rw[X]at m;refine an (gZ @C @D @E @F @G @j @O @m @P @n @t) ?_;refine aR λl2 Z=>?_;have k2:=aq.mono W (ν (b0:=.cells [.J (ab f.1) k,.v (.bool f.2)]) ι Z);refine an (gZ @C @D @E @F @G @P @n @t @Y @υ @ξ) ?_;refine gY (by simp[ba,τ]) σ λl3 k3=>?_;have k4:=aq.mono k2 (ν (b0:=.cells (flat [R.J (ab f.1) k])) ι k3);have k5:aw isRow ((a.rows.take b).map Α++[f.1]) (d++[R.J (ab f.1) k]):=z.snoc ⟨_,rfl⟩;have u:(flat d).length=b:=by rw[dg (z.cells λ_ _=>ρ),z.len];simp;omega
  refine an (aZ @C @D @E @F @G) ?_;refine fN k4 ε (mU rfl) rfl (by rw[u];simp[flat,τ];omega) (by rw[u];simp[flat,τ];omega) λk6 l4 v=>?_;have k7:flat d++flat [R.J (ab f.1) k]=flat (d++[R.J (ab f.1) k]):=by simp[flat]
  rw[k7]at v;refine an (aZ @C @D @E @F @G) ?_;refine⟨⟨b+1,k6,_,ε,?_,v,σ⟩,ε⟩;rw[l,a8r];exact k5
 .obtain rfl:b=β a.rows:=ε;rw[a8c]at z;refine an (bt @C @D @E @F @G @j) ?_;exact⟨_,ι,d,z,W.base i⟩
def iV(b:af)(c:Nat)(d:aj):Option bO:=
 match di b c d with
 |none=>η
 |some a=>if a.kind=2\/a.kind=3 then γ a else η
theorem yP(b:U)(S I:Nat)(T:af)(k4:bz b S I T)(k:aj)(V W e:Own)(K:β k.sum=32)(k5:k.cL)(o:Nat)(k6:1<=o)(k7:o<=8):
  AC δ 172 [ej S o,.agg (ag k V W e)] b λq x=>b.sub x/\match iV T o k with
   |none=>q=.aJ [yF,.v (.int .i64 21)]
   |some a=>∃d f,q=.aJ [kk a d f,.v (.int .i64 0)]/\hT b x a d f:=by
 refine bh hm R4 σ ?_;have c:∀M,(R.agg M).cells=M:=λ_=>rfl;have y:∀z C D d f N:R,putAt [z,C,D] 0 [d,f,N]=[d,f,N]:=λ_ _ _ _ _ _=>rfl;have G:∀z C D,aX ζ 3 [z,C,D]=.agg [z,C,D]:=λ_ _ _=>rfl;have E:∀z C D:R,[z,C,D].length=3:=λ_ _ _=>rfl;have O:=aV (a7:=V) (h5:=W) (j1:=e) K;have s:=O.len;refine an @c ?_;refine aR λt l6=>?_;refine an (c2 @c @s) ?_;refine aR λg i=>?_;have u:t≠g:=by rintro rfl;rw[ξ]at i;cases i
 have l7:b g=none:=by rw[ο _ _ (Θ u)]at i;exact i
 refine an (c2 @c @s) ?_;refine aR λh j=>?_;have k8:g≠h:=by rintro rfl;rw[ξ]at j;cases j
 have k9:t≠h:=by rintro rfl;rw[ο _ _ u,ξ]at j;cases j
 have l0:b h=none:=by simp_all [ο,Θ]
 obtain⟨L,Q⟩:∃L:U,L=((b.set t (.cells [.ptr S 0,.v (.int .i64 (o))])).set g (.cells (ag k V W e))).set h (.cells [.v (.int .u8 0),.J [] .nil,.J [] .nil]):=⟨_,rfl⟩;have v:b.sub L:=by grind[ν,ι]
 have aL:L h=γ (.cells [.v (.int .u8 0),.J [] .nil,.J [] .nil]):=by rw[Q,ξ]
 have l:∀(x)(X),b.sub x->b.sub (x.set h X):=λx X w=>ν w l0;refine an (bl @c @s @ο @u @k9 @k8 @ξ O.t37) ?_;rw[<-Q];refine ak (vj L S I T (k4.mono v) k V W e K (λ_=>k5) o k6 k7) ?_;rintro q l8⟨Y,m⟩;have l1:=π v Y;have F:=Y _ _ aL;unfold iV;cases Z:di T o k with
 |none=>
  rw[Z]at m;obtain rfl:=m;refine an (aD @c @y @E) ?_;refine aR λA p=>?_;have r:h≠A:=by rintro rfl;rw[F]at p;cases p
  have P:=Θ r;refine an (dz @c @y @E @G @υ @ο @r @P (ω F)) ?_;grind[ι,π,ν]
 |some a=>
  rw[Z]at m;obtain⟨d,f,rfl,l2⟩:=m;simp -dsimp -implicitDefEqProofs (disch:=first|omega|assumption|(simp only[bd,Nat.reduceAdd];try omega)) only[go_sem,simprocAttr,-List.reduceReplicate,c,y,E,G];refine aR λA p=>?_;have r:h≠A:=by rintro rfl;rw[F]at p;cases p
  have P:=Θ r;have l3:=(l2.mono (ν (b0:=.cells [.v (.int .u8 (a.kind.toNat)),d,f]) ι p)).set (ob:=.cells [.v (.int .u8 (a.kind.toNat)),d,f]) aL;have l9:=l3.base (l _ _ v);have B:=π l1 (ν (b0:=.cells [.v (.int .u8 (a.kind.toNat)),d,f]) ι p);have l4:=fP a.kind 2 ε;have l5:=fP a.kind 3 ε;simp only[aaA]at l4 l5;simp only;by_cases k2:a.kind=2
  .have n:((a.kind.toNat:Int)=2)=True:=by rw[k2];simp
   refine an (gZ @c @y @E @G @υ @ξ @ο @r @P (ω F) @n) ?_;refine⟨_,ι,l _ _ B,?_⟩;grind
  .have n:¬(a.kind.toNat:Int)=2:=λw=>k2 (by simp_all);by_cases k3:a.kind=3
   .have H:((a.kind.toNat:Int)=3)=True:=by rw[k3];simp
    refine an (ha @c @y @E @G @υ @ξ @ο @r @P (ω F) @n @H) ?_;refine⟨_,ι,l _ _ B,?_⟩;grind
   .have H:¬(a.kind.toNat:Int)=3:=λw=>k3 (by simp_all);refine an (ha @c @y @E @G @υ @ξ @ο @r @P (ω F) @n @H) ?_;refine⟨_,ι,l _ _ B,?_⟩;simp_all
def yQ(h:bO)(G L:ύ)(d f:R)(k:U)(P:gB k h d f G L):
  AC δ 186 [kk h d f] k λi j=>∃a p,i=.agg [.v (.bool (decide (h.kind=2))),a,f]/\aw isRow (h.rows.map Α) p/\aq k j 1 (flat p) a:=by
 refine bh hm Rv σ ?_;have r:∀S,(R.agg S).cells=S:=λ_=>rfl;have T:∀a b c,aX ζ 3 [a,b,c]=.agg [a,b,c]:=λ_ _ _=>rfl;have l:∀a b c:R,[a,b,c].length=3:=λ_ _ _=>rfl;have m:∀a b c d f V:R,putAt [a,b,c] 0 [d,f,V]=[d,f,V]:=λ_ _ _ _ _ _=>rfl;have n:∀a b c d:R,putAt [a,b,c] 0 [d]=[d,b,c]:=λ_ _ _ _=>rfl;have q:∀a b c d:R,putAt [a,b,c] 1 [d]=[a,d,c]:=λ_ _ _ _=>rfl;have s:∀a b c d:R,putAt [a,b,c] 2 [d]=[a,b,d]:=λ_ _ _ _=>rfl;have t:∀b:Bool,(R.v (.bool b)).cells=[.v (.bool b)]:=λ_=>rfl;have u:∀a b c:R,aX κ 1 ([a,b,c].drop 2)=c:=λ_ _ _=>rfl;have W:∀a b c:R,List.take 3 [a,b,c]=[a,b,c]:=λ_ _ _=>rfl;refine an @r ?_;refine aR λD v=>?_;refine an @r ?_;refine aR λx y=>?_;have E:D≠x:=by rintro rfl;rw[ξ]at y;cases y
 have e:k x=none:=by rw[ο _ _ (Θ E)]at y;exact y
 obtain⟨o,z⟩:∃o:U,o=(k.set D (.cells [.v (.int .u8 (h.kind.toNat)),d,f])).set x (.cells [.v (.bool κ),.J [] .nil,.J [] .nil]):=⟨_,rfl⟩;have g:k.sub o:=by rw[z];exact ν (ν ι v) e
 have w:o D=γ (.cells [.v (.int .u8 (h.kind.toNat)),d,f]):=by rw[z,ο _ _ E,ξ]
 have c2:o x=γ (.cells [.v (.bool κ),.J [] .nil,.J [] .nil]):=by rw[z,ξ]
 have F:=fP h.kind 2 ε;simp only[aaA]at F;have A:φ 2=2:=rfl;rw[A]at F;refine an (bt @r @ο @E @ξ @T @W) ?_;rw[<-z];refine ak (yO h G L d f o (P.mono g)) ?_;rintro a N⟨p,B,C⟩;have H:=C.1 _ _ w;have I:=C.1 _ _ c2;have K:=eG C;have M:=P.iM.one;refine an (DH @r (μ H) (ω I) @T @W @u @t @K @M @n @q @s @l @m @F) ?_;refine⟨_,ι,a,p,rfl,B,?_⟩;exact(kj C c2).base (ν g e)
theorem a0N(f:R)(c d:R)(a b:Nat)(D:c.cells=[c])(E:d.cells=[d])(F:f.cells=[f])(p:gX c=γ (.v (.int .i64 (a:Int))))(r:gX d=γ (.v (.int .i64 (b:Int))))(G:a<=1000000000000)(L:b<=1000000000000)(h:U):
  AC δ 254 [.agg [f,c,d]] h λx y=>y=h/\x=.v (.bool (decide (a+b<2))):=by
 refine bh hm T9 σ ?_;have k:∀o,(R.agg o).cells=o:=λ_=>rfl;refine an @k ?_;refine aR λP z=>?_;refine an (aD @k @p @r) ?_;have C:decide ((a:Int)+b<2)=decide (a+b<2):=by grind
 exact⟨h,ν ι z,rfl,by rw[C]⟩
def mW(a:af)(b:Nat)(c:Bool)(d:List Ω)(f:List aj):Except Int aj×af:=if c=ζ then dL a b (ec d)else dL a b (ei f)
theorem F6(a:U)(b d:Nat)(D:af)(s:bz a b d D)(E:Bool)(F:List Ω)(t:ύ)(g:R)(G:List aj)(u:ύ)(i:R)(c:Nat)(K:1<=c)(M:c<=8)(k6:aw isRow F t)(k7:bL a 1 g t)(k8:β F<=100000)(k9:aw bA G u)(l0:bL a 37 i u)(l1:β G<=100000):
  AC δ 116 [ej b c,.agg [.v (.bool E),g,i]] a λx N=>bz N b d (mW D c E F G).2/\Ext b d a N/\hC (mW D c E F G).1 x:=by
 refine bh hm Px σ ?_;have f:∀O,(R.agg O).cells=O:=λ_=>rfl;have Q:=(aV (a7:=.nil) (h5:=.nil) (j1:=.nil) bo).len;have X:∀L P:R,List.take 2 [L,P]=[L,P]:=λ_ _=>rfl;have Y:∀L P,aX ζ 2 [L,P]=.agg [L,P]:=λ_ _=>rfl;refine an @f ?_;refine aR λv l4=>?_;refine an @f ?_;refine aR λj l=>?_;have m:v≠j:=by rintro rfl;rw[ξ]at l;cases l
 have l5:a j=none:=by rw[ο _ _ (Θ m)]at l;exact l
 refine an (c2 @f @cB) ?_;refine aR λy n=>?_;have Z:j≠y:=by rintro rfl;rw[ξ]at n;cases n
 have k2:v≠y:=by rintro rfl;rw[ο _ _ m,ξ]at n;cases n
 have w:a y=none:=by simp_all [ο,Θ]
 obtain⟨h,A⟩:∃h:U,h=((a.set v (.cells [.ptr b 0,.v (.int .i64 (c))])).set j (.cells [.v (.bool E),g,i])).set y (.cells (ag aG .nil .nil .nil)):=⟨_,rfl⟩;have z:a.sub h:=by grind[ν,ι]
 have aL:h y=γ (.cells (ag aG .nil .nil .nil)):=by rw[A,ξ]
 have q:=s.cI w;unfold mW;have k3:∀(k4)(k5)(x)(C),bz C b d k5->Ext b d h C->hC k4 x->C y=γ (.cells (ag aG .nil .nil .nil)):=λk4 k5 x C _ l2 _=>l2 _ _ q.1 q.2 aL;cases E with
 |true=>refine an (dz @f @cB @ο @m @k2 @Z @ξ @X @Y) ?_;rw[<-A];refine ak (yN h b d D (s.mono z) F t g c K M k6 (k7.mono z) k8) ?_;rintro x C⟨S,T,k⟩;have B:=k3 _ _ _ _ S T k;obtain⟨V,o,p,r,l3,W,rfl⟩:=k.shape;have e:=aV (a7:=o) (h5:=p) (j1:=r) W;have H:=e.len;have I:putAt (ag aG .nil .nil .nil) 0 (ag V o p r)=ag V o p r:=cT bo W;refine an (bt @f (ω B) @I @H @Q e.t37) ?_;exact⟨_,ι,S.set q,((Γ z).trans T).set w,k⟩
 |false=>refine an (dz @f @cB @ο @m @k2 @Z @ξ @X @Y) ?_;rw[<-A];refine ak (F5 h b d D (s.mono z) G u i c K M k9 (l0.mono z) l1) ?_;rintro x C⟨S,T,k⟩;have B:=k3 _ _ _ _ S T k;obtain⟨V,o,p,r,l3,W,rfl⟩:=k.shape;have e:=aV (a7:=o) (h5:=p) (j1:=r) W;have H:=e.len;have I:putAt (ag aG .nil .nil .nil) 0 (ag V o p r)=ag V o p r:=cT bo W;refine an (bt @f (ω B) @I @H @Q e.t37) ?_;exact⟨_,ι,S.set q,((Γ z).trans T).set w,k⟩
abbrev hU(a:Ω)(b:bO):Nat:=a6.da bE a (b.kids.map (·.key))
variable{Q:List Ω}{n b5:Ω}
def a0O{a:Ω}:a6.da bE n (a::b5::Q)=if bE n b5=ζ then 0 else a6.da bE n (b5::Q)+1:=rfl
theorem F7(a:bO)(B H:ύ)(p r:R)(c:Ω)(L:Own)(d:U)(y:gB d a p r B H):
  AC δ 178 [kk a p r,.J (ab c) L] d λI P=>P=d/\I=.v (.int .i64 (hU c a:Int)):=by
 refine bh hm Rh σ ?_;have T:∀V,(R.agg V).cells=V:=λ_=>rfl;have W:=y.vf;have k7:=y.iP;refine an @T ?_;refine aR λz K=>?_;obtain⟨f,S⟩:∃f:U,f=d.set z (.cells [.v (.int .u8 (a.kind.toNat)),p,r]):=⟨_,rfl⟩;have M:d.sub f:=by rw[S];exact ν ι K
 have c2:f z=γ (.cells [.v (.int .u8 (a.kind.toNat)),p,r]):=by rw[S,ξ]
 have N:=y.iM.mono M;refine an @T ?_;rw[show d.set z (.cells (kk a p r).cells)=f from S.symm];refine cZ (λh P=>∃b:Nat,P=f/\hU c a=b+a6.da bE c ((a.kids.map (·.key)).drop b)/\b<=β a.kids/\h 1=.J (ab c) L/\h 2=.ptr z 0/\h 5=.v (.int .i64 b))
  (λh _=>match h 5 with|.v (.int _ O)=>β a.kids - O.toNat|_=>0) ⟨0,rfl,σ,ε,?_⟩ ?_
 .exact nQ
 rintro h e⟨b,rfl,x,k8,C,D,E⟩;have g:∀i Q j:R,aX κ 1 ([i,Q,j].drop 2)=j:=λ_ _ _=>rfl;by_cases l:(b:Int)+1<β a.kids
 .have m:a.kids[b+1]?=γ a.kids[b+1]:=Τ ε;have n:(a.kids.map (·.key)).drop b=(a.kids[b]'ε).key::(a.kids[b+1]'ε).key::(a.kids.map (·.key)).drop (b+2):=by grind[List.drop_eq_getElem_cons,List.length_map]
  have q:(a.kids.map (·.key)).drop (b+1)=(a.kids[b+1]'ε).key::(a.kids.map (·.key)).drop (b+2):=by rw[a8g (by rw[a7Q];omega)];simp
  rw[n,a0O,<-q]at x;clear n q;generalize a.kids[b+1]'ε=k at m x;obtain⟨i,X,Y,k9,F,G,o,rfl⟩:=y.kids.get m;obtain⟨l0,s,t⟩:=N.get (b+1) _ X;have u:=aV (a7:=F) (h5:=G) (j1:=o) Y;have Z:(R.agg (ag k F G o)).cells=ag k F G o:=rfl;rw[Z]at t;obtain⟨l1,k2,v⟩:=t.lH e ι 36 κ 1 ε (by rw[u.len];omega);have k3:aX κ 1 ((ag k F G o).drop 36)=.J (ab k.key) o:=by rw[u.d36];rfl
  rw[k3]at v;have k4:((b+1:Nat))=(b:Int)+1:=ε;rw[k4]at s;refine an (cw @C @D @E (μ c2) @g @W @l @s @k2 @v) ?_;refine ak (yG c k.key L o _) ?_;rintro _ e⟨rfl,rfl⟩;cases w:bE c k.key with
  |true=>rw[if_pos w]at x;refine an (aL @C @D @E @a8n) ?_;simp_all
  |false=>rw[if_neg (by simp[w])]at x;refine an (aL @C @D @E @a8q) ?_;grind
 .have k5:a6.da bE c ((a.kids.map (·.key)).drop b)=0:=by
   have A:((a.kids.map (·.key)).drop b).length<=1:=by grind
   generalize (a.kids.map (·.key)).drop b=k6 at A
   match k6,A with
   |[],_=>rfl
   |[_],_=>rfl
  rw[k5]at x;refine an (cr @C @D @E (μ c2) @g @W @l) ?_;simp_all
def mX(c:List Ω)(d:Ω):Nat->Nat->Nat->Nat
 |0,a,_=>a
 |f+1,a,b=>if a<b then(match c[(a+b)/2]? with
  |some h=>if mV h d<0 then mX c d f ((a+b)/2+1) b else mX c d f a ((a+b)/2)
  |none=>a)else a
def fp(a:List Ω)(b:Ω):Nat:=mX a b (β a) 0 (β a)
def lh(a:List Ω)(b:Ω):Bool:=match a[fp a b]? with|some c=>decide (mV c b=0)|none=>κ
theorem F8(b:List Ω)(n:ύ)(T:R)(d:Ω)(G:Own)(L:U)(V:aw isRow b n)(W:bL L 1 T n)(N:β b<=1000000000000):
  AC δ 173 [T,.J (ab d) G,.bG 175 [] []] L λf e=>e=L/\fp b d<=β b/\f=.aJ [.v (.int .i64 (fp b d:Int)),.v (.bool (lh b d))]:=by
 refine bh hm R6 σ ?_;have q:=W.len;rw[V.len]at q;refine an @q ?_;have s:gw δ 175=true:=by rfl
 refine cZ (λh e=>∃(p a c:Nat),e=L/\fp b d=mX b d p a c/\a<=c/\c<=β b/\c - a<=p/\h 0=T/\h 1=.J (ab d) G/\h 2=.bG 175 [] []/\h 8=.v (.int .i64 (β b))/\h 9=.v (.int .i64 a)/\h 10=.v (.int .i64 c))
  (λh _=>match h 9,h 10 with|.v (.int _ a),.v (.int _ c)=>(c - a).toNat|_,_=>0) ⟨β b,0,β b,rfl,rfl,ε,ε,ε,?_⟩ ?_
 .exact nQ
 rintro h P⟨p,a,c,rfl,r,O,Q,X,x,y,z,C,D,E⟩;by_cases g:(a)<(c:Int)
 .obtain⟨Y,rfl⟩:∃v,p=v+1:=⟨p - 1,ε⟩;have w:a<c:=ε;have t:(a+c)/2<β b:=ε;have k:=Τ t;rw[mX,if_pos w,k]at r;simp only at r;generalize b[(a+c)/2]'t=f at k r;obtain⟨A,i,o,rfl⟩:=V.get k;obtain⟨B,j,l⟩:=W.get _ _ i;have F:=l.ld P ι κ 1 ε (by simp[τ]);have m:aX κ 1 (R.J (ab f) o).cells=.J (ab f) o:=rfl;rw[m]at F;have H:IntKind.u64.wrap ((a)+c)=((a+c:Nat)):=by rw[wrap_u64 ε ε];omega
  have I:bj .shr (.int .u64 ((a+c:Nat))) (.int .u64 1)=γ (.int .u64 (((a+c)/2:Nat))):=by rw[sW _ _ _ ε ε];rfl
  have K:IntKind.i64.wrap (((a+c)/2:Nat))=(((a+c)/2:Nat)):=wrap_i64 ε ε;generalize Z:(a+c)/2=k2 at*;refine an (ha @x @y @z @C @D @E @g @H @I @K @j @F) ?_;refine fa s (EV f d o G _) ?_;rintro _ P⟨rfl,rfl⟩;by_cases S:mV f d<0
  .rw[if_pos S]at r;refine an (cr @x @y @z @C @D @E @S) ?_;grind
  .rw[if_neg S]at r;refine an (cr @x @y @z @C @D @E @S) ?_;grind
 .obtain rfl:a=c:=ε;have M:fp b d=a:=by rw[r];cases p<;>simp[mX]
  unfold lh;rw[M];by_cases u:(a:Int)<β b
  .have k:b[a]?=γ b[a]:=Τ ε;rw[k];generalize b[a]'ε=f at k;obtain⟨A,i,o,rfl⟩:=V.get k;obtain⟨B,j,l⟩:=W.get _ _ i;have F:=l.ld P ι κ 1 ε (by simp[τ]);have m:aX κ 1 (R.J (ab f) o).cells=.J (ab f) o:=rfl;rw[m]at F;refine an (cw @x @y @z @C @D @E @g @u @j @F) ?_;refine fa s (EV f d o G _) ?_;rintro _ P⟨rfl,rfl⟩;refine an (bt @x @y @z @C @D @E) ?_;exact⟨_,ι,rfl,ε⟩
  .have k:b[a]?=none:=a9H ε;rw[k];refine an (bl @x @y @z @C @D @E @g @u) ?_;exact⟨_,ι,rfl,ε⟩
def dA(d f:U)(b c:Nat)(h:af)(k:Nat)(o:ύ)(p:R):Prop:=∃a,aq a f k o p/\bz a b c h/\Ext b c d a
theorem dA.nil{a:U}{b c f:Nat}{d:af}(h:bz a b c d):dA a a b c d f [] (.J [] .nil):=⟨a,aq.nil ι,h,Ext.refl⟩
def dA.hg(a:dA w g e i H t j s):bz g e i H:=by obtain⟨d,b,c,_⟩:=a;exact c.mono b.1
def dA.ext(a:dA g w e i H t j s):Ext e i g w:=by obtain⟨d,b,_,c⟩:=a;exact c.trans (Γ b.1)
theorem dA.of{s:U}{l lM:Nat}(a:aq g s e j b8)(b:bz g l lM H)(c:Ext l lM w g):dA w s l lM H e j b8:=⟨g,a,b,c⟩
def dA.mono{b c d:U}{f h:Nat}{k:af}{o:Nat}{p:ύ}{a:R}(r:dA b c f h k o p a)(x:c.sub d):dA b d f h k o p a:=by obtain⟨y,z,C⟩:=r;exact⟨y,z.mono x,C⟩
theorem dA.base(a:dA g h7 e i H t j s)(b:Ext e i w g):dA w h7 e i H t j s:=by obtain⟨c,d,f,h⟩:=a;exact⟨c,d,f,b.trans h⟩
theorem dA.step{p r f:U}{a b:Nat}{G x:af}{y:Nat}{z:ύ}{C:R}(L:dA p r a b G y z C)(D:Ext a b r f)(E:bz f a b x):dA p f a b x y z C:=by
 obtain⟨P,⟨S,k⟩,T,V⟩:=L;have W:=E.ne;refine⟨λc=>if c=a then f a else if c=b then f b else P c,⟨λc e d=>?_,?_⟩,E.other σ (by simp[Θ W]),λc e c3 bS d=>?_⟩
 .by_cases h:c=a
  .subst h;simpa using d
  .by_cases o:c=b
   .subst o;simpa[h] using d
   .simp only[h,o,if_false]at d;exact D _ _ h o (S _ _ d)
 .rcases k with k|⟨g,i,j,l,m,n,q,s⟩
  .exact .inl k
  .have F:=T.cI n;exact .inr ⟨g,i,j,l,m,by grind,D _ _ F.1 F.2 q,s⟩
 .simp only[c3,bS,if_false];exact V _ _ c3 bS d
theorem yR(h:e≠1):∀ {a:ύ},(∀c∈a,∃b,c=.agg b/\β b=e)->eZ e (β a) (flat a)=a:=by
 intro a d;have k:ba e a:=λc o=>by obtain⟨b,rfl,p⟩:=d c o;exact p
 unfold eZ;rw[if_neg h];refine ab3 λr=>?_;rw[a7Z];by_cases aE:r<β a
 .rw[a9Q aE];have f:=Τ aE;have:=Eu k f;obtain⟨b,x,_⟩:=d _ (a8b aE);rw[f,a8z,this,x];rfl
 simp_all
theorem F9{f:List aj}(a:aw bA f j):∀b∈j,∃c,b=.agg c/\β c=37:=by intro b h;obtain⟨k,o,rfl⟩:=a8e h;have y:=a.len;obtain⟨z,d,p⟩:=a.get (Τ (i:=k) ε);rw[Τ o]at d;obtain rfl:=Δ d;obtain⟨r,_,C,D,E,x⟩:=p;exact⟨_,x,(aV r).len⟩
def dA.view(d:dA g w e i H t j s):∃b a,β j=b*t/\View w s a (.J (eZ t b j) .any)/\bz a e i H/\Ext e i g a:=by obtain⟨r,f,h,k⟩:=d;obtain⟨b,a,o,c,p⟩:=View.dq f;exact⟨b,a,o,p,h.mono c,k.trans (Γ c)⟩
theorem dA.vl{b:List aj}(c:dA g w e i H 37 (flat j) s)(d:aw bA b j):∃a,View w s a (.J j .any)/\bz a e i H/\Ext e i g a:=by obtain⟨h,a,f,k,o⟩:=c.view;rw[dg (d.cells λ_ _=>Ξ)]at f;grind[yR,F9]
theorem aq.vl{b:List aj}(c:aq g w 37 (flat j) s)(d:aw bA b j):∃a,View w s a (.J j .any)/\g.sub a:=by obtain⟨h,a,f,k,o⟩:=View.dq c;rw[dg (d.cells λ_ _=>Ξ)]at f;grind[yR,F9]
theorem o2(a:aw isRow Q j):flat j=j:=by
 induction Q generalizing j with
 |nil=>cases j with
  |nil=>rfl
  |cons=>exact a.elim
 |cons b Q ih=>cases j with
  |nil=>rfl
  |cons c j=>obtain⟨d,rfl⟩:=a.1;have:=ih a.2;simp only[flat,a7R]at this|-;rw[this];rfl
theorem aq.Fa(b:aq g w 1 (flat j) s)(c:aw isRow Q j):∃a,View w s a (.J j .any)/\g.sub a:=by grind[View.dq,o2,ki,Λ]
def eM{c:Type}(d:List c->bO)(f:Nat):af->List (List c)->List aj->Except Int (List aj)×af
 |a,[],acc=>(.ok acc,a)
 |a,h::gs,acc=>
  match dL a f (d h)with
  |(.error k,b)=>(.error k,b)
  |(.ok o,b)=>eM d f b gs (acc++[o])
def a0P(d:Except Int (List aj))(a:R):Prop:=
 match d with
 |.error b=>b≠0/\a=.aJ [.J [] .nil,.v (.int .i64 b)]
 |.ok bF=>∃c f,aw bA bF c/\a=.aJ [.J c f,.v (.int .i64 0)]
variable{K:Type}
def hV(b:K->R->Prop)(c:List K)(d:R):Prop:=∃a f,d=.J a f/\aw b c a
theorem hV.cells{a:Type}{c:a->R->Prop}{d:List a}{b:R}(f:hV c d b):β b.cells=1:=by obtain⟨_,_,rfl,_⟩:=f;rfl
theorem aw.yS{b:K->R->Prop}{a:List K}(c:aw b a []):a=[]:=by cases a with|nil=>rfl|cons=>exact c.elim
def Fb(a:0<e)(c:i<=100000):i/e+(if 0<i%e then 1 else 0)<=i:=by
 have d:=aay i e;by_cases b:0<i%e
 .rw[if_pos b];have:i/e<=e*(i/e):=abo _ a;omega
 .rw[if_neg b];have:i/e<=e*(i/e):=abo _ a;omega
theorem Fc(d:List Ω)(a:ύ)(f:Own)(c:U)(h:aw isRow d a)(E:β d<=100000):
  AC δ 253 [.J a f] c λo p=>∃k,bk c p 1 a k/\o=.J a k:=by
 refine oO λF=>?_;have r:f=.nil->a=[]:=λx=>by subst x;simp_all
 refine bh hm T5 σ ?_;simp -dsimp -implicitDefEqProofs (disch:=first|omega|assumption|(simp only[bd,Nat.reduceAdd];try omega)) only[go_sem,simprocAttr,-List.reduceReplicate,↓oT];refine oU (λb=>by rw[r b]) (λb=>?_) ?_
 .have y:a=[]:=by trivial
  subst y;refine an @a8q ?_;exact⟨c,ι,.nil,bk.nil ι,rfl⟩
 .refine bU ?_;refine eF ι (by simp[ba]) λG L z=>?_;refine bU ?_;have P:=h.len;refine ef z (λ_ b=>by cases b) (h.cells λ_ _=>ρ) (by rw[a7E];omega) (by rw[a7E];omega) λC D S=>?_;refine an @a7T.{0} ?_;exact⟨D,ι,C,by trivial,rfl⟩
theorem a0Q(F:List Ω)(P:ύ)(u:Own)(c:Nat)(S:U)(M:aw isRow F P)(N:β F<=100000)(k7:c<=100000):
  AC δ 245 [.J P u,.v (.int .i64 (c:Int))] S λO T=>S.sub T/\∃gs Q,O=.J gs Q/\aw (hV isRow) (a6.fm c F) gs:=by
 refine bh hm T1 σ ?_;refine bU ?_;refine cZ (λy T=>∃(d:Nat)(b:List Ω)(f:ύ)(D:Own)(gs:ύ)(L:Own)(E:List (List Ω)),d<=c/\E++a6.fm (c - d) b=a6.fm c F/\aw isRow b f/\β b<=100000/\β E=d/\aw (hV isRow) E gs/\bk S T 1 gs L/\
   y 0=.J f D/\y 1=.v (.int .i64 c)/\y 5=.J gs L/\y 8=.v (.int .i64 c)/\y 9=.v (.int .i64 d))
  (λy _=>match y 9 with|.v (.int _ X)=>c - X.toNat|_=>0) ⟨0,F,P,u,[],.nil,[],ε,rfl,M,N,rfl,trivial,bk.nil ι,?_⟩ ?_
 .exact nQ
 rintro y k8⟨d,b,f,D,gs,L,E,k9,z,h,Y,v,C,V,k,o,p,r,x⟩;by_cases W:(d)<(c:Int)
 .have w:=h.len;have Z:=Fb (e:=c - d) ε Y;have A:(c) -(d)=((c - d:Nat):Int):=ε;rw[show c - d=(c -(d+1))+1 by omega,a6.fm]at z;rw[show c -(d+1)+1=c - d by omega]at z;generalize l0:c - d=G at*;have B:¬(G:Int)=0:=ε;have l1:=abj (β b) G;have H:(β b:Int).tdiv (G:Int)=((β b/G:Nat)):=rfl;have I:(β b:Int).tmod (G:Int)=((β b%G:Nat)):=rfl;obtain⟨a,e⟩:∃a,a=β b/G+(if 0<β b%G then 1 else 0):=⟨_,rfl⟩;rw[<-e]at Z z;by_cases K:0<β b%G
  .have g:((0)<((β b%G:Nat):Int))=True:=eq_true ε;have i:((β b/G:Nat))+1=(a:Int):=by rw[e,if_pos K];omega
   have j:dU 1 (.J f D) η (γ (.v (.int .i64 (a))))=γ (.J (f.take a) .any):=nN ε ε (h.cells λ_ _=>ρ);have l:dU 1 (.J f D) (γ (.v (.int .i64 (a)))) η=γ (.J (f.drop a) .any):=pT ε ε (h.cells λ_ _=>ρ);refine an (hb @k @o @p @r @x @W @w @A @H @I @B @g @i @j) ?_;refine ak (Fc (b.take a) (f.take a) .any _ (h.take a) (by rw[a7z];omega)) ?_;rintro _ k2⟨m,n,rfl⟩;refine an (aZ @k @o @p @r @x) ?_;refine eF ι (by simp[ba,τ]) λk3 k4 q=>?_;refine an (aZ @k @o @p @r @x) ?_;have k5:=C.len;refine ef (V.mono (π n.sub q.sub)) (C.cells λ_ _=>hV.cells) (by simp[ba,τ]) (by grind) (by grind) λs k6 t=>?_;refine an (bt @k @o @p @r @x @l) ?_;refine⟨⟨d+1,b.drop a,f.drop a,.any,gs++[.J (f.take a) m],s,E++[b.take a],ε,?_,h.drop a,by rw[a7F];omega,by simp[v],C.snoc ⟨_,_,rfl,h.take a⟩,t,σ⟩,ε⟩;rw[<-z,a7P];rfl
  .have g:((0)<((β b%G:Nat):Int))=False:=eq_false ε;have i:((β b/G:Nat))=(a:Int):=by rw[e,if_neg K];omega
   have j:dU 1 (.J f D) η (γ (.v (.int .i64 (a))))=γ (.J (f.take a) .any):=nN ε ε (h.cells λ_ _=>ρ);have l:dU 1 (.J f D) (γ (.v (.int .i64 (a)))) η=γ (.J (f.drop a) .any):=pT ε ε (h.cells λ_ _=>ρ);refine an (hb @k @o @p @r @x @W @w @A @H @I @B @g @i @j) ?_;refine ak (Fc (b.take a) (f.take a) .any _ (h.take a) (by rw[a7z];omega)) ?_;rintro _ k2⟨m,n,rfl⟩;refine an (aZ @k @o @p @r @x) ?_;refine eF ι (by simp[ba,τ]) λk3 k4 q=>?_;refine an (aZ @k @o @p @r @x) ?_;have k5:=C.len;refine ef (V.mono (π n.sub q.sub)) (C.cells λ_ _=>hV.cells) (by simp[ba,τ]) (by grind) (by grind) λs k6 t=>?_;refine an (bt @k @o @p @r @x @l) ?_;refine⟨⟨d+1,b.drop a,f.drop a,.any,gs++[.J (f.take a) m],s,E++[b.take a],ε,?_,h.drop a,by rw[a7F];omega,by simp[v],C.snoc ⟨_,_,rfl,h.take a⟩,t,σ⟩,ε⟩;rw[<-z,a7P];rfl
 .obtain rfl:d=c:=ε;rw[a9U,a6.fm,a8u]at z;refine an (bt @k @o @p @r @x @W) ?_;exact⟨_,ι,V.sub,gs,L,rfl,by rw[<-z];exact C⟩
theorem Fe(d:List (aj))(a:ύ)(f:Own)(c:U)(h:aw bA d a)(E:β d<=100000):
  AC δ 252 [.J a f] c λo p=>∃k,bk c p 37 a k/\o=.J a k:=by
 refine oO λF=>?_;have r:f=.nil->a=[]:=λx=>by subst x;simp_all
 refine bh hm T3 σ ?_;simp -dsimp -implicitDefEqProofs (disch:=first|omega|assumption|(simp only[bd,Nat.reduceAdd];try omega)) only[go_sem,simprocAttr,-List.reduceReplicate,↓oT];refine oU (λb=>by rw[r b]) (λb=>?_) ?_
 .have y:a=[]:=by trivial
  subst y;refine an @a8q ?_;exact⟨c,ι,.nil,bk.nil ι,rfl⟩
 .refine bU ?_;refine eF ι (by simp[ba]) λG L z=>?_;refine bU ?_;have P:=h.len;refine ef z (λ_ b=>by cases b) (h.cells λ_ _=>Ξ) (by rw[a7E];omega) (by rw[a7E];omega) λC D S=>?_;refine an @a7T.{0} ?_;exact⟨D,ι,C,by trivial,rfl⟩
theorem Ff(F:List (aj))(P:ύ)(u:Own)(c:Nat)(S:U)(M:aw bA F P)(N:β F<=100000)(k7:c<=100000):
  AC δ 183 [.J P u,.v (.int .i64 (c:Int))] S λO T=>S.sub T/\∃gs Q,O=.J gs Q/\aw (hV bA) (a6.fm c F) gs:=by
 refine bh hm Rq σ ?_;refine bU ?_;refine cZ (λy T=>∃(d:Nat)(b:List (aj))(f:ύ)(D:Own)(gs:ύ)(L:Own)(E:List (List (aj))),d<=c/\E++a6.fm (c - d) b=a6.fm c F/\aw bA b f/\β b<=100000/\β E=d/\aw (hV bA) E gs/\bk S T 1 gs L/\
   y 0=.J f D/\y 1=.v (.int .i64 c)/\y 5=.J gs L/\y 8=.v (.int .i64 c)/\y 9=.v (.int .i64 d))
  (λy _=>match y 9 with|.v (.int _ X)=>c - X.toNat|_=>0) ⟨0,F,P,u,[],.nil,[],ε,rfl,M,N,rfl,trivial,bk.nil ι,?_⟩ ?_
 .exact nQ
 rintro y k8⟨d,b,f,D,gs,L,E,k9,z,h,Y,v,C,V,k,o,p,r,x⟩;by_cases W:(d)<(c:Int)
 .have w:=h.len;have Z:=Fb (e:=c - d) ε Y;have A:(c) -(d)=((c - d:Nat):Int):=ε;rw[show c - d=(c -(d+1))+1 by omega,a6.fm]at z;rw[show c -(d+1)+1=c - d by omega]at z;generalize l0:c - d=G at*;have B:¬(G:Int)=0:=ε;have l1:=abj (β b) G;have H:(β b:Int).tdiv (G:Int)=((β b/G:Nat)):=rfl;have I:(β b:Int).tmod (G:Int)=((β b%G:Nat)):=rfl;obtain⟨a,e⟩:∃a,a=β b/G+(if 0<β b%G then 1 else 0):=⟨_,rfl⟩;rw[<-e]at Z z;by_cases K:0<β b%G
  .have g:((0)<((β b%G:Nat):Int))=True:=eq_true ε;have i:((β b/G:Nat))+1=(a:Int):=by rw[e,if_pos K];omega
   have j:dU 37 (.J f D) η (γ (.v (.int .i64 (a))))=γ (.J (f.take a) .any):=nN ε ε (h.cells λ_ _=>Ξ);have l:dU 37 (.J f D) (γ (.v (.int .i64 (a)))) η=γ (.J (f.drop a) .any):=pT ε ε (h.cells λ_ _=>Ξ);refine an (hb @k @o @p @r @x @W @w @A @H @I @B @g @i @j) ?_;refine ak (Fe (b.take a) (f.take a) .any _ (h.take a) (by rw[a7z];omega)) ?_;rintro _ k2⟨m,n,rfl⟩;refine an (aZ @k @o @p @r @x) ?_;refine eF ι (by simp[ba,τ]) λk3 k4 q=>?_;refine an (aZ @k @o @p @r @x) ?_;have k5:=C.len;refine ef (V.mono (π n.sub q.sub)) (C.cells λ_ _=>hV.cells) (by simp[ba,τ]) (by grind) (by grind) λs k6 t=>?_;refine an (bt @k @o @p @r @x @l) ?_;refine⟨⟨d+1,b.drop a,f.drop a,.any,gs++[.J (f.take a) m],s,E++[b.take a],ε,?_,h.drop a,by rw[a7F];omega,by simp[v],C.snoc ⟨_,_,rfl,h.take a⟩,t,σ⟩,ε⟩;rw[<-z,a7P];rfl
  .have g:((0)<((β b%G:Nat):Int))=False:=eq_false ε;have i:((β b/G:Nat))=(a:Int):=by rw[e,if_neg K];omega
   have j:dU 37 (.J f D) η (γ (.v (.int .i64 (a))))=γ (.J (f.take a) .any):=nN ε ε (h.cells λ_ _=>Ξ);have l:dU 37 (.J f D) (γ (.v (.int .i64 (a)))) η=γ (.J (f.drop a) .any):=pT ε ε (h.cells λ_ _=>Ξ);refine an (hb @k @o @p @r @x @W @w @A @H @I @B @g @i @j) ?_;refine ak (Fe (b.take a) (f.take a) .any _ (h.take a) (by rw[a7z];omega)) ?_;rintro _ k2⟨m,n,rfl⟩;refine an (aZ @k @o @p @r @x) ?_;refine eF ι (by simp[ba,τ]) λk3 k4 q=>?_;refine an (aZ @k @o @p @r @x) ?_;have k5:=C.len;refine ef (V.mono (π n.sub q.sub)) (C.cells λ_ _=>hV.cells) (by simp[ba,τ]) (by grind) (by grind) λs k6 t=>?_;refine an (bt @k @o @p @r @x @l) ?_;refine⟨⟨d+1,b.drop a,f.drop a,.any,gs++[.J (f.take a) m],s,E++[b.take a],ε,?_,h.drop a,by rw[a7F];omega,by simp[v],C.snoc ⟨_,_,rfl,h.take a⟩,t,σ⟩,ε⟩;rw[<-z,a7P];rfl
 .obtain rfl:d=c:=ε;rw[a9U,a6.fm,a8u]at z;refine an (bt @k @o @p @r @x @W) ?_;exact⟨_,ι,V.sub,gs,L,rfl,by rw[<-z];exact C⟩
theorem o3{b:Type}:∀ {g:Nat}{l:List b},(a6.fm g l).length=g/\∀a∈a6.fm g l,β a<=β l
 |0,l=>⟨rfl,λa c=>by cases c⟩
 |g+1,l=>by
  have ih:=o3 (g:=g) (l:=l.drop (β l/(g+1)+if 0<β l%(g+1)then 1 else 0));refine⟨by rw[a6.fm,a7I,ih.1],λa d=>?_⟩;rw[a6.fm]at d;grind
def a0R(S:U)(x T:Nat)(V:af)(l1:bz S x T V)(a:List (List Ω))(j:ύ)(W:Own)(c:Nat)(l2:1<=c)(l3:c<=8)(l:aw (hV isRow) a j)(l4:∀m∈a,β m<=100000)(a19:β a<=100000):
  AC δ 244 [.J j W,.bG 110 [ej x c] []] S λu e=>match(eM ec c V a []).1 with
   |.error v=>bz e x T (eM ec c V a []).2/\Ext x T S e/\v≠0/\u=.aJ [.J [] .nil,.v (.int .i64 v)]
   |.ok bF=>∃d f,aw bA bF d/\u=.aJ [f,.v (.int .i64 0)]/\dA S e x T (eM ec c V a []).2 37 (flat d) f/\(bF=[]->f=.J [] .nil):=by
 refine bh hm SZ σ ?_;have w:∀N,(R.agg N).cells=N:=λ_=>rfl;have A:=(aV (a7:=.nil) (h5:=.nil) (j1:=.nil) bo).len;have O:=l.len;have l5:gw δ 110=true:=Φ;have a27:=bL.J (s:=S) (o:=W) (l.cells λ_ _=>hV.cells);refine an @O ?_;refine cZ (λh e=>∃(b:Nat)(g:af)(y:List aj)(d:ύ)(f:R),b<=β a/\eM ec c g (a.drop b) y=eM ec c V a []/\aw bA y d/\β y=b/\dA S e x T g 37 (flat d) f/\(y=[]->f=.J [] .nil)/\
   h 0=.J j W/\h 1=.bG 110 [ej x c] []/\h 6=f/\h 11=.J j W/\h 12=.v (.int .i64 (β a))/\h 13=.v (.int .i64 b))
  (λh _=>match h 13 with|.v (.int _ l6)=>β a - l6.toNat|_=>0) ⟨0,V,[],[],.J [] .nil,ε,rfl,trivial,rfl,dA.nil l1,λ_=>rfl,?_⟩ ?_
 .exact ch @O
 rintro h B⟨b,g,y,d,f,a29,C,n,l7,H,l8,D,E,F,G,L,P⟩;by_cases Q:(b:Int)<β a
 .have X:a[b]?=γ a[b]:=Τ ε;have Y:a.drop b=a[b]::a.drop (b+1):=a8g ε;have Z:=l4 _ (a8b (n:=b) ε);rw[Y,eM]at C;clear Y;generalize a[b]'ε=m at X C Z;obtain⟨a30,l9,q,I,rfl,k2⟩:=l.get X;obtain⟨a34,n0,n2⟩:=(bL.J (s:=B) (o:=W) (l.cells λ_ _=>hV.cells)).get b _ l9;have k3:=n2.ld B ι κ 1 ε (by simp[τ]);have n3:aX κ 1 (R.J q I).cells=.J q I:=rfl;rw[n3]at k3;refine an (dz @D @E @F @G @L @P @Q @n0 @k3) ?_;refine fa l5 (yN B x T g H.hg m q (.J q I) c l2 l3 k2 (bL.J (k2.cells λ_ _=>ρ)) Z) ?_;rintro u a36⟨k4,n4,s⟩;have k5:=H.step n4 k4;generalize a38:dL g c (ec m)=n5 at*;obtain⟨res,n9⟩:=n5;simp only at C k4 s k5;obtain⟨z,k,o,p,v,k6,r⟩:=s.shape;have k7:=aV (a7:=k) (h5:=o) (j1:=p) k6;have i:=k7.len;have K:putAt (ag aG .nil .nil .nil) 0 (ag z k o p)=ag z k o p:=cT bo k6;subst r;refine an (gZ @D @E @F @G @L @P @cB @w @A @i @K) ?_;refine aR λa42 a00=>?_;have M:=k5.mono (ν (b0:=.cells (ag z k o p)) ι a00);cases res with
  |error a43=>obtain⟨a01,r⟩:=s;simp only[R.aJ.injEq,a9X,R.v.injEq,Value.int.injEq,true_and,and_true]at r;obtain⟨_,rfl⟩:=r;rw[<-C];refine an (jw @D @E @F @G @L @P @cB @w @A @i @K @υ @a01) ?_;exact⟨_,ι,M.hg,M.ext⟩
  |ok k8=>
   obtain⟨a02,a03,a04,a05,a06,r⟩:=s;simp only[R.aJ.injEq,a9X,R.v.injEq,Value.int.injEq,true_and,and_true,R.agg.injEq]at r;obtain⟨r,rfl⟩:=r;obtain⟨a07,a08,a09,a10⟩:=M;refine an (hb @D @E @F @G @L @P @cB @w @A @i @K @υ @ξ k7.t37) ?_;refine gY (by simp[ba,τ,i]) σ λa47 a11=>?_;have a13:=aq.mono a08 (ν (b0:=.cells (flat [R.agg (ag z k o p)])) ι a11);have a14:aw bA (y++[k8]) (d++[R.agg (ag z k o p)]):=n.snoc ⟨a02,a03,a04,a05,a06,by rw[r]⟩;have k9:(flat d).length=β y*37:=by rw[dg (n.cells λ_ _=>Ξ),n.len]
   have t:(flat [R.agg (ag z k o p)]).length=1*37:=by simp[flat,τ,i]
   refine an (bt @D @E @F @G @L @P) ?_;refine fN a13 ε (mU t) t (by rw[k9,t];omega) (by rw[k9,t];omega) λa15 a48 l0=>?_;have a16:flat d++flat [R.agg (ag z k o p)]=flat (d++[R.agg (ag z k o p)]):=by simp[flat]
   rw[a16]at l0;refine an (bt @D @E @F @G @L @P) ?_;exact⟨⟨b+1,n9,y++[k8],_,a15,ε,C,a14,by simp[l7],⟨a07,l0,a09,a10⟩,(λa18=>by simp at a18),σ⟩,ε⟩
 .obtain rfl:b=β a:=ε;rw[List.drop_length,eM]at C;rw[<-C];refine an (cr @D @E @F @G @L @P @Q) ?_;exact⟨_,ι,d,f,n,rfl,H,l8⟩
def oZ(a:af)(b:Nat)(c:List Ω):Except Int (List aj)×af:=eM ec b a (a6.chunks c) []
def Fg(S:U)(x T:Nat)(V:af)(l1:bz S x T V)(a:List (List (aj)))(j:ύ)(W:Own)(c:Nat)(l2:1<=c)(l3:c<=8)(l:aw (hV bA) a j)(l4:∀m∈a,β m<=100000)(a19:β a<=100000):
  AC δ 182 [.J j W,.bG 181 [ej x c] []] S λu e=>match(eM ei c V a []).1 with
   |.error v=>bz e x T (eM ei c V a []).2/\Ext x T S e/\v≠0/\u=.aJ [.J [] .nil,.v (.int .i64 v)]
   |.ok bF=>∃d f,aw bA bF d/\u=.aJ [f,.v (.int .i64 0)]/\dA S e x T (eM ei c V a []).2 37 (flat d) f/\(bF=[]->f=.J [] .nil):=by
 refine bh hm Ro σ ?_;have w:∀N,(R.agg N).cells=N:=λ_=>rfl;have A:=(aV (a7:=.nil) (h5:=.nil) (j1:=.nil) bo).len;have O:=l.len;have l5:gw δ 181=true:=Φ;have a27:=bL.J (s:=S) (o:=W) (l.cells λ_ _=>hV.cells);refine an @O ?_;refine cZ (λh e=>∃(b:Nat)(g:af)(y:List aj)(d:ύ)(f:R),b<=β a/\eM ei c g (a.drop b) y=eM ei c V a []/\aw bA y d/\β y=b/\dA S e x T g 37 (flat d) f/\(y=[]->f=.J [] .nil)/\
   h 0=.J j W/\h 1=.bG 181 [ej x c] []/\h 6=f/\h 11=.J j W/\h 12=.v (.int .i64 (β a))/\h 13=.v (.int .i64 b))
  (λh _=>match h 13 with|.v (.int _ l6)=>β a - l6.toNat|_=>0) ⟨0,V,[],[],.J [] .nil,ε,rfl,trivial,rfl,dA.nil l1,λ_=>rfl,?_⟩ ?_
 .exact ch @O
 rintro h B⟨b,g,y,d,f,a29,C,n,l7,H,l8,D,E,F,G,L,P⟩;by_cases Q:(b:Int)<β a
 .have X:a[b]?=γ a[b]:=Τ ε;have Y:a.drop b=a[b]::a.drop (b+1):=a8g ε;have Z:=l4 _ (a8b (n:=b) ε);rw[Y,eM]at C;clear Y;generalize a[b]'ε=m at X C Z;obtain⟨a30,l9,q,I,rfl,k2⟩:=l.get X;obtain⟨a34,n0,n2⟩:=(bL.J (s:=B) (o:=W) (l.cells λ_ _=>hV.cells)).get b _ l9;have k3:=n2.ld B ι κ 1 ε (by simp[τ]);have n3:aX κ 1 (R.J q I).cells=.J q I:=rfl;rw[n3]at k3;refine an (dz @D @E @F @G @L @P @Q @n0 @k3) ?_;refine fa l5 (F5 B x T g H.hg m q (.J q I) c l2 l3 k2 (bL.J (k2.cells λ_ _=>Ξ)) Z) ?_;rintro u a36⟨k4,n4,s⟩;have k5:=H.step n4 k4;generalize a38:dL g c (ei m)=n5 at*;obtain⟨res,n9⟩:=n5;simp only at C k4 s k5;obtain⟨z,k,o,p,v,k6,r⟩:=s.shape;have k7:=aV (a7:=k) (h5:=o) (j1:=p) k6;have i:=k7.len;have K:putAt (ag aG .nil .nil .nil) 0 (ag z k o p)=ag z k o p:=cT bo k6;subst r;refine an (gZ @D @E @F @G @L @P @cB @w @A @i @K) ?_;refine aR λa42 a00=>?_;have M:=k5.mono (ν (b0:=.cells (ag z k o p)) ι a00);cases res with
  |error a43=>obtain⟨a01,r⟩:=s;simp only[R.aJ.injEq,a9X,R.v.injEq,Value.int.injEq,true_and,and_true]at r;obtain⟨_,rfl⟩:=r;rw[<-C];refine an (jw @D @E @F @G @L @P @cB @w @A @i @K @υ @a01) ?_;exact⟨_,ι,M.hg,M.ext⟩
  |ok k8=>
   obtain⟨a02,a03,a04,a05,a06,r⟩:=s;simp only[R.aJ.injEq,a9X,R.v.injEq,Value.int.injEq,true_and,and_true,R.agg.injEq]at r;obtain⟨r,rfl⟩:=r;obtain⟨a07,a08,a09,a10⟩:=M;refine an (hb @D @E @F @G @L @P @cB @w @A @i @K @υ @ξ k7.t37) ?_;refine gY (by simp[ba,τ,i]) σ λa47 a11=>?_;have a13:=aq.mono a08 (ν (b0:=.cells (flat [R.agg (ag z k o p)])) ι a11);have a14:aw bA (y++[k8]) (d++[R.agg (ag z k o p)]):=n.snoc ⟨a02,a03,a04,a05,a06,by rw[r]⟩;have k9:(flat d).length=β y*37:=by rw[dg (n.cells λ_ _=>Ξ),n.len]
   have t:(flat [R.agg (ag z k o p)]).length=1*37:=by simp[flat,τ,i]
   refine an (bt @D @E @F @G @L @P) ?_;refine fN a13 ε (mU t) t (by rw[k9,t];omega) (by rw[k9,t];omega) λa15 a48 l0=>?_;have a16:flat d++flat [R.agg (ag z k o p)]=flat (d++[R.agg (ag z k o p)]):=by simp[flat]
   rw[a16]at l0;refine an (bt @D @E @F @G @L @P) ?_;exact⟨⟨b+1,n9,y++[k8],_,a15,ε,C,a14,by simp[l7],⟨a07,l0,a09,a10⟩,(λa18=>by simp at a18),σ⟩,ε⟩
 .obtain rfl:b=β a:=ε;rw[List.drop_length,eM]at C;rw[<-C];refine an (cr @D @E @F @G @L @P @Q) ?_;exact⟨_,ι,d,f,n,rfl,H,l8⟩
def a0S(f:U)(c h:Nat)(d:af)(z:bz f c h d)(a:List (List (aj)))(o:ύ)(p:Own)(b:Nat)(C:1<=b)(D:b<=8)(E:aw (hV bA) a o)(F:∀G∈a,β G<=100000)(L:β a<=100000):
  AC δ 182 [.J o p,.bG 181 [ej c b] []] f λr k=>bz k c h (eM ei b d a []).2/\Ext c h f k/\a0P (eM ei b d a []).1 r:=by
 refine(Fg f c h d z a o p b C D E F L).view λr k x=>?_;generalize eM ei b d a []=P at*;obtain⟨res,m⟩:=P;cases res with
 |error n=>obtain⟨S,T,V,rfl⟩:=x;exact⟨_,k,View.refl,S,T,V,rfl⟩
 |ok bF=>obtain⟨W,q,y,rfl,e,_⟩:=x;obtain⟨g,i,j,l⟩:=e.vl y;exact⟨_,g,View.aJ (a:=[]) i,j,l,W,.any,y,rfl⟩
def ko(a:af)(b:Nat)(c:List (aj)):Except Int (List aj)×af:=eM ei b a (a6.chunks c) []
theorem rB{b:Type}{c:List b->bO}{d:Nat}:∀ {gs:List (List b)}{S S':af}{acc ks:List aj},eM c d S gs acc=(.ok ks,S')->β ks=β acc+β gs
 |[],S,S',acc,ks,a=>by
  grind[eM,Prod.mk.inj,Except.ok.inj]
 |f::gs,S,S',acc,ks,a=>by
  rw[eM]at a;split at a
  .simp_all
  .have:=rB a;rw[this];simp;omega
def iW(c:Nat):Nat->af->List aj->Except Int aj×af
 |0,a,_=>(.error 1,a)
 |d+1,a,bF=>
  if 1<β bF then match ko a c bF with
   |(.error f,b)=>(.error f,b)
   |(.ok up,b)=>iW c d b up
  else(.ok (bF.headD aG),a)
def a0T(h:U)(c k:Nat)(g:af)(H:bz h c k g)(d:List aj)(i:ύ)(k7:Own)(b:Nat)(a02:1<=b)(a03:b<=8)(a04:aw bA d i)(a42:β d<=100000):
  AC δ 112 [ej c b,.J i k7] h λk8 f=>bz f c k (iW b (β d+1) g d).2/\Ext c k h f/\hC (iW b (β d+1) g d).1 k8:=by
 refine bh hm Pp σ ?_;have S:∀k9,(R.agg k9).cells=k9:=λ_=>rfl;have I:=(aV (a7:=.nil) (h5:=.nil) (j1:=.nil) bo).len;have K:∀D T:R,List.take 2 [D,T]=[D,T]:=λ_ _=>rfl;have M:∀D T,aX ζ 2 [D,T]=.agg [D,T]:=λ_ _=>rfl;refine an @S ?_;refine aR λj l0=>?_;refine an (c2 @S @cB) ?_;refine aR λE q=>?_;have l1:j≠E:=by rintro rfl;rw[ξ]at q;cases q
 have N:h E=none:=by rw[ο _ _ (Θ l1)]at q;exact q
 obtain⟨o,s⟩:∃o:U,o=(h.set j (.cells [.ptr c 0,.v (.int .i64 (b))])).set E (.cells (ag aG .nil .nil .nil)):=⟨_,rfl⟩;have l2:h.sub o:=by rw[s];exact ν (ν ι l0) N
 have aL:o E=γ (.cells (ag aG .nil .nil .nil)):=by rw[s,ξ]
 have c2:o j=γ (.cells [.ptr c 0,.v (.int .i64 (b))]):=by rw[s,ο _ _ l1,ξ]
 have F:=H.cI N;have l3:=H.cI l0;have l4:=(aV (a7:=.nil) (h5:=.nil) (j1:=.nil) bo).t37;have l5:putAt (ag aG .nil .nil .nil) 0 (ag aG .nil .nil .nil)=ag aG .nil .nil .nil:=cT bo bo;have O:∀(f)(l6),Ext c k o f->Ext c k h (f.set E l6):=λf l6 Q=>((Γ l2).trans Q).set N;simp -dsimp -implicitDefEqProofs (disch:=first|omega|assumption|(simp only[bd,Nat.reduceAdd];try omega)) only[go_sem,simprocAttr,-List.reduceReplicate,S,cB];rw[show(h.set j (.cells (ej c b).cells)).set E (.cells (θ 32 (R.v (.int .u8 0))++[R.J [] .nil,.J [] .nil]++[R.v (.int .i64 0),.v (.int .i64 0)]++[R.J [] .nil]))=o by rw[s,<-cB];rfl];refine cZ (λV f=>∃(W:Nat)(p:af)(a:List aj)(t:ύ)(u:Own),iW b W p a=iW b (β d+1) g d/\β a<W/\W<=100001/\aw bA a t/\bz f c k p/\Ext c k o f/\V 1=.J t u/\V 2=.ptr j 0/\V 4=.ptr E 0)
  (λV _=>match V 1 with|.J i _=>β i|_=>0) ⟨β d+1,g,d,i,k7,rfl,ε,ε,a04,H.mono l2,Ext.refl,?_⟩ ?_
 .exact nQ
 rintro V l⟨W,p,a,t,u,r,a43,a47,v,X,m,G,L,P⟩;have w:=v.len;have Y:=m _ _ l3.1 l3.2 c2;have l7:=m _ _ F.1 F.2 aL;obtain⟨Z,rfl⟩:∃Z,W=Z+1:=⟨W - 1,ε⟩;rw[iW]at r;by_cases A:(1:Int)<β a
 .rw[if_pos ε]at r;refine an (bl @G @L @P @w @A (μ Y) @K @M) ?_;refine ak (yL (β a) ε l) ?_;rintro _ l⟨rfl,rfl⟩;refine an (bl @G @L @P @w @A (μ Y) @K @M) ?_;have l8:a6.bV (β a)<=100000:=by unfold a6.bV;omega
  refine ak (Ff a t u (a6.bV (β a)) l v ε l8) ?_;rintro _ a05⟨k2,gs,a06,rfl,a07⟩;have a08:=k2 _ _ Y;refine an (bt @G @L @P (μ a08) @K @M) ?_;have k3:=o3 (g:=a6.bV (β a)) (l:=a);refine ak (a0S a05 c k p (X.mono k2) _ gs a06 b a02 a03 a07 (λa09 a10=>by have:=k3.2 a09 a10;omega) (by rw[k3.1];exact l8)) ?_;rintro k8 a48⟨n,a11,x⟩;have l9:ko p b a=eM ei b p (a6.fm (a6.bV (β a)) a) []:=rfl;rw[<-l9]at n x;have n0:=λB a13 Q=>rB (c:=ei) (d:=b) (gs:=a6.fm (a6.bV (β a)) a) (S:=p) (S':=B) (acc:=[]) (ks:=a13) Q;rw[<-l9]at n0;have k4:=m.trans ((Γ k2).trans a11);have a14:=k4 _ _ F.1 F.2 aL;generalize ko p b a=a15 at*;obtain⟨res,B⟩:=a15;cases res with
  |error a52=>obtain⟨n2,rfl⟩:=x;simp only at r n;rw[<-r];refine an (cw @G @L @P @n2 @cB @S (ω a14) @I @l4 @l5) ?_;exact⟨_,ι,n.set F,O _ _ k4,n2,rfl⟩
  |ok up=>
   obtain⟨a16,a18,n3,rfl⟩:=x;have n4:=n0 B up rfl;rw[k3.1]at n4;have a56:β up<β a:=by rw[n4];unfold a6.bV;simp;omega
   have a57:=n3.len;simp only at r n;refine an (aD @G @L @P) ?_;exact⟨⟨Z,B,up,a16,a18,r,ε,ε,n3,n,k4,rfl⟩,ε⟩
 .rw[if_neg ε]at r;rw[<-r];by_cases k5:(β a:Int)=0
  .have:a=[]:=a7y ε;subst this;refine an (ha @G @L @P @w @A @k5 @cB @S (ω l7) @I @l4 @l5) ?_;exact⟨_,ι,X.set F,O _ _ m,bo,q9,.nil,.nil,.nil,rfl⟩
  .have n5:a[0]?=γ a[0]:=Τ ε;have a19:a.headD aG=a[0]'ε:=by cases a with|nil=>simp at k5|cons D T=>rfl
   rw[a19];generalize a[0]'ε=e at n5;obtain⟨D,a27,k6,a29,y,z,C,rfl⟩:=v.get n5;obtain⟨a61,n9,a00⟩:=(bL.J (s:=l) (o:=u) (v.cells λ_ _=>Ξ)).get 0 _ a27;have x:=aV (a7:=y) (h5:=z) (j1:=C) k6;have a30:=x.len;have a34:(R.agg (ag e y z C)).cells=ag e y z C:=rfl;rw[a34]at a00;have a01:=a00.ld l ι ζ 37 ε (by rw[x.len];omega);rw[show aX ζ 37 (ag e y z C)=.agg (ag e y z C) by rw[aX,if_pos rfl,x.t37]]at a01;have a36:((0:Nat):Int)=0:=rfl;rw[a36]at n9;have a38:putAt (ag aG .nil .nil .nil) 0 (ag e y z C)=ag e y z C:=cT bo k6;refine an (hb @G @L @P @w @A @k5 @n9 @a01 @S (ω l7) @I @a30 @a38 x.t37) ?_;exact⟨_,ι,X.set F,O _ _ m,k6,a29,y,z,C,rfl⟩
end Go.Proofs.YtgchlmdfldnhnaaGreat
namespace Go.bw
open Go
variable{j B b7:ύ}{e i t I b3 e5:Nat}
theorem qc{a:ύ}{v:Nat}(b:j.take e=a)(c:β B=v)(d:β b7=i)(f:e+v+i<=β j):
  (putAt (putAt j (e+v) b7) e B).take (e+v+i)=a++(B++b7)/\(putAt (putAt j e B) (e+v) b7).take (e+v+i)=a++(B++b7):=by
 have h:β a=e:=by rw[<-b,a7z];omega
 constructor
 .have k:(j.take (e+v)).length=e+v:=by rw[a7z];omega
  grind[putAt,List.append_assoc,Nat.min_eq_left,List.drop_left',List.take_left',Ζ]
 grind[putAt,List.take_left',Ζ,List.append_assoc]
variable{e4:IntKind}
theorem p0(h:e<=t)(k:t<=I):∃v,cc i (.ar b3 t I i) (γ (.v (.int e4 (e:Int)))) η η=γ v/\gX v=γ (.v (.int .i64 ((t - e:Nat):Int)))/\
  ∀(c:U)(a b:ύ),c b3=γ (.cells a)->t*i<=β a->a.take (t*i)=b->c8 c i v=γ (t - e,b.drop (e*i)):=by
 by_cases o:e<I
 .refine⟨_,gy h k o,rfl,λc a b d p f=>?_⟩;have r:e*i+(t - e)*i=t*i:=by rw[<-a8D];congr 1;omega
  simp only[c8,μ d];grind
 .obtain rfl:e=t:=ε;obtain rfl:e=I:=ε;refine⟨_,td rfl,by simp[gX],λc a b d p f=>?_⟩;have:b.drop (e*i)=[]:=a8k (by rw[<-f,a7z];omega);rw[this,a9U];rfl
theorem Fh{a:IntKind}(b:I<=e)(c:e<=t):∃v,cc i (.ar b3 e5 t i) (γ (.v (.int e4 (I:Int)))) (γ (.v (.int a (e:Int)))) η=γ v:=by simp_all [cc,cH,Go.bw.intOf]
theorem Fi{a:Nat}{b c:IntKind}(d:b3<=e)(f:e<=i)(h:i<=I):∃v,cc t (.ar e5 a I t) (γ (.v (.int e4 (b3:Int)))) (γ (.v (.int b (e:Int)))) (γ (.v (.int c (i:Int))))=γ v:=by simp_all [cc,cH,Go.bw.intOf]
variable{g w h7:U}
theorem aq.first(c:aq g w e j (.ar t I b3 e))(d:i<=I):aq g w e (j.take (i*e)) (.ar t i b3 e):=by
 obtain⟨f,a⟩:=c;rcases a with⟨_,a|a⟩|⟨x,y,z,h,b,k,o,p,C,D,E,r⟩
 .cases a
 .cases a
 simp only[R.ar.injEq,and_true]at b;obtain⟨rfl,rfl,rfl⟩:=b;have F:i*e<=I*e:=a7N _ d;exact⟨f,.inr ⟨t,i,b3,h,rfl,k,o,p,by grind,by simp_all,ε,r⟩⟩
theorem aq.ar{h o:U}{k:Nat}{a:ύ}{p:R}(x:aq h o k a p)(y:a≠[]):∃d b c f,p=.ar d b c k/\h d=η/\o d=γ (.cells f)/\β f=c*k/\f.take (b*k)=a/\β a=b*k/\b<=c/\c<=maxLen:=by
 rcases x.2 with⟨r,_⟩|r
 .trivial
 .exact r
variable{s b8:R}{b0:bq}
theorem aq.add(k:aq w g i j s)(D:g e=γ b0)(o:∀a b c,s=.ar a b c i->a≠e):aq (w.set e b0) g i j s:=by
 obtain⟨p,d⟩:=k;refine⟨λr E f=>?_,?_⟩
 .by_cases x:r=e;grind[ξ]
  .rw[ο _ _ x]at f;exact p _ _ f
 .rcases d with d|⟨a,b,c,y,h,z,C⟩
  .exact .inl d
  .exact .inr ⟨a,b,c,y,h,by rw[ο _ _ (o _ _ _ h)];exact z,C⟩
variable{u b2:R -> U -> Prop}
theorem vm{a:cK u}(b:g I=γ (.cells j))(c:β j=b3*e)(d:c8 g e s=γ (t,B))(f:i+t<=b3)(h:(i+t)*e5<=140737488355328)(k:i+t<=9223372036854775807)
  (o:u (.ar I (i+t) b3 e) (g.set I (.cells (putAt j (i*e) B)))):mO e e5 g (.ar I i b3 e) s (c7 u a):=by
 simp_all [mO,wX,c7]
end Go.bw
namespace Go.Proofs.YtgchlmdfldnhnaaGreat
open Go Go.bw
theorem a0U(y k:U)(c:ύ)(z:R)(C:aq y k 1 c z)(a:Nat)(D:a<β c)(u:β c<=100000):
  AC δ 187 [z,.v (.int .i64 (a:Int)),.v (.int .i64 ((a:Int)+1))] k λS T=>aq y T 1 (c.take a++c.drop (a+1)) S:=by
 obtain⟨d,b,f,E,rfl,F,G,L,V,v,o,W⟩:=C.ar (λe=>by rw[e]at D;simp at D);refine bh hm Rx σ ?_;have w:b=β c:=ε;have g:(a)+1=((a+1:Nat):Int):=ε;rw[g];obtain⟨A,i⟩:=Fi (t:=1) (e5:=d) (a:=b) (b3:=a) (e:=a+1) (e4:=.i64) (b:=.i64) (c:=.i64) ε ε o;have j:cc 1 (.ar d b f 1) η (γ (.v (.int .i64 (a)))) η=γ (.ar d a f 1):=hQ ε;obtain⟨B,l,_,p⟩:=p0 (i:=1) (b3:=d) (e:=a+1) (e4:=.i64) ε o;have p:=p k E c G (by rw[L];omega) V;have m:¬(a)=((a+1:Nat):Int):=ε;refine dH (aL @i @j @l @m) ?_;refine vm G L p ε ε ε ?_;have n:a+(b -(a+1))=b - 1:=ε;rw[n,a8m];have H:(c.drop ((a+1)*1)).length=b -(a+1):=by rw[a7F];omega
 obtain⟨h,r⟩:∃h,h=putAt E a (c.drop ((a+1)*1)):=⟨_,rfl⟩;have x:β h=f:=by rw[r,eY _ _ _ ε];omega
 have q:h.take (b - 1)=c.take a++c.drop (a+1):=by rw[r,putAt];grind
 rw[<-r];have s:(k.set d (.cells h)) d=γ (.cells h):=ξ _ _ _;have P:cc 1 (.ar d (b - 1) f 1) (γ (.v (.int .i64 ((b - 1:Nat))))) (γ (.v (.int .i64 ((b))))) η=γ (.bC d ((b - 1)*1) (b -(b - 1)) (f -(b - 1)) 1):=DI ε o ε;have t:=y3 (e:=1) (I:=b -(b - 1)) (t:=b - 1) (b3:=f -(b - 1)) (B:=[R.J [] .nil]) s (by rw[x];omega);rw[a8m]at P;refine dH (aD @P @t @υ) ?_;refine⟨_,ι,ν C.1 F,.inr ⟨d,b - 1,f,_,rfl,F,ξ _ _ _,?_,?_,?_,ε,W⟩⟩
 .rw[eY _ _ _ (by rw[lL,x];simp;omega),x,a8m]
 .rw[putAt,a8m,a7P,a9f (by rw[a7z];omega),a8G,a9L,q]
 grind
theorem a0V(l k:U)(d:ύ)(H:R)(x:aq l k 1 d H)(O:d≠[])(a:Nat)(l4:a<=β d)(l5:β d<=100000)(h:R)(y:Nat)(m:l y=γ (.cells [h])):
  AC δ 177 [H,.v (.int .i64 (a:Int)),.ar y 1 1 1] k λQ F=>aq l F 1 (d.take a++h::d.drop a) Q:=by
 obtain⟨c,b,f,r,rfl,n,C,q,s,l6,X,Y⟩:=x.ar O;refine bh hm Rf σ ?_;have l7:b=β d:=ε;have G:=x.1 _ _ m;have I:c≠y:=by rintro rfl;rw[n]at m;cases m
 have V:((1:Nat):Int)=1:=rfl;obtain⟨l8,W,_,K⟩:=p0 (i:=1) (b3:=c) (e:=a) (e4:=.i64) ε X;have t:∀F:U,F y=γ (.cells [h])->c8 F 1 (.ar y 1 1 1)=γ (1,[h]):=λF x=>by simp[c8,μ x]
 by_cases c1:(a:Int)=b
 .have Z:=eq_true c1;refine dH (aD @W @Z @V) ?_;refine fN x ε (t k G) rfl (by grind) (by grind) λl9 F n0=>?_;refine DM ?_;grind[ι,Λ,List.drop_eq_nil_of_le]
 have n2:a<b:=ε;have k2:=K k r d C ε s;rw[a8m]at k2;have M:(d.drop a).length=b - a:=by rw[a7F];omega
 by_cases c2:(f)<(b:Int)+1
 .have e:cc 1 (.ar c b f 1) η (γ (.v (.int .i64 (a)))) η=γ (.ar c a f 1):=hQ ε;have N:(b)+1 -(a)=((b+1 - a:Nat):Int):=ε;refine dH (bt @W @c1 @V @c2 @e @N) ?_;refine y5 C q ε ε ε λo z k3 g i k4 k5=>?_;have k6:a+(b+1 - a)=b+1:=ε;rw[k6]at i k5|-;have k7:o≠c:=by rintro rfl;rw[g]at C;cases C
  have k8:o≠y:=by rintro rfl;rw[g]at G;cases G
  obtain⟨D,k9⟩:∃D,D=r.take (a*1)++(θ (b+1 - a) [R.J [] .nil]).flatten++k3:=⟨_,rfl⟩;have l0:β D=z:=by grind[Ζ,lL,List.length_take]
  have u:D.take a=d.take a:=by grind
  rw[<-k9];have T:cc 1 (.ar o (b+1) z 1) (γ (.v (.int .i64 (a)))) η η=γ (.bC o (a*1) (b+1 - a) (z - a) 1):=gy ε i ε;have E:cc 1 (.ar o (b+1) z 1) (γ (.v (.int .i64 ((a)+1)))) η η=γ (.bC o ((a+1)*1) (b+1 -(a+1)) (z -(a+1)) 1):=by rw[show(a)+1=((a+1:Nat):Int) by omega];exact gy ε i ε
  rw[a8m]at T E;rw[abw]at E;have v:(k.set o (.cells D)) y=γ (.cells [h]):=by rw[ο _ _ (Θ k8)];exact G
  have L:=hR (I:=a) (e5:=z - a) (i:=b+1 - a) (t _ v) (ξ k o (.cells D)) ε;have w:[h].take ((b+1 - a)*1)=[h]:=a7x Ι;rw[w]at L;obtain⟨p,P⟩:∃p,p=putAt D a [h]:=⟨_,rfl⟩;have A:β p=z:=by rw[P,eY _ _ _ Ι,l0]
  rw[<-P]at L;have l1:(k.set o (.cells p)) c=γ (.cells r):=by rw[ο _ _ (Θ k7)];exact C
  have j:=K _ r d l1 ε s;rw[a8m]at j;have S:=hR (I:=a+1) (e5:=z -(a+1)) (i:=b - a) j (ξ k o (.cells p)) ε;have B:(d.drop a).take ((b - a)*1)=d.drop a:=a7x ε;rw[B]at S;refine dH (gZ @W @c1 @V @c2 @e @N @T @E @L @S @υ) ?_;refine⟨_,ι,ν x.1 (Ν x.1 g),.inr ⟨o,b+1,z,_,rfl,Ν x.1 g,ξ _ _ _,?_,?_,?_,i,k4⟩⟩
  .rw[eY _ _ _ ε,A,a8m]
  .have:=(qc (B:=[h]) (v:=1) u rfl M ε).2;rw[show(b+1)*1=a+1+(b - a) by omega,P];exact this
  grind
 .have e:cc 1 (.ar c b f 1) η (γ (.v (.int .i64 ((b)+1)))) η=γ (.ar c (b+1) f 1):=by rw[show(b)+1=((b+1:Nat):Int) by omega];exact hQ ε
  have T:cc 1 (.ar c (b+1) f 1) (γ (.v (.int .i64 (a)))) η η=γ (.bC c (a*1) (b+1 - a) (f - a) 1):=gy ε ε ε;have E:cc 1 (.ar c (b+1) f 1) (γ (.v (.int .i64 ((a)+1)))) η η=γ (.bC c ((a+1)*1) (b+1 -(a+1)) (f -(a+1)) 1):=by rw[show(a)+1=((a+1:Nat):Int) by omega];exact gy ε ε ε
  rw[a8m]at T E;rw[abw]at E;have l2:r≠[]:=by rintro rfl;simp at q;omega
  have l3:lK (.ar y 1 1 1) (.bC c (a+1) (b - a) (f -(a+1)) 1) k=γ (.v (.bool κ)):=y4 rfl rfl (Θ I) (r8 G σ) (r8 C l2);have j:c8 k 1 (.bC c a (b+1 - a) (f - a) 1)=γ (b+1 - a,(r.drop a).take (b+1 - a)):=by simp only[c8,μ C,a8m];grind
  have S:=hR (I:=a+1) (e5:=f -(a+1)) (i:=b - a) j C ε;have B:((r.drop a).take (b+1 - a)).take ((b - a)*1)=d.drop a:=by rw[a8G,<-s,a8T];congr 1;omega
  rw[B]at S;obtain⟨p,P⟩:∃p,p=putAt r (a+1) (d.drop a):=⟨_,rfl⟩;rw[<-P]at S;have A:β p=β r:=by rw[P,eY _ _ _ ε]
  have v:(k.set c (.cells p)) y=γ (.cells [h]):=by rw[ο _ _ (Θ I)];exact G
  have L:=hR (I:=a) (e5:=f - a) (i:=b+1 - a) (t _ v) (ξ k c (.cells p)) ε;have w:[h].take ((b+1 - a)*1)=[h]:=a7x Ι;rw[w]at L;refine dH (gZ @W @c1 @V @c2 @e @T @E @l3 @S @L @υ) ?_;refine⟨_,ι,ν x.1 n,.inr ⟨c,b+1,f,_,rfl,n,ξ _ _ _,?_,?_,?_,ε,Y⟩⟩
  .rw[eY _ _ _ Ι,A,q]
  .have u:r.take a=d.take a:=by grind
   have:=(qc (B:=[h]) (v:=1) u rfl M ε).1;grind
  grind
end Go.Proofs.YtgchlmdfldnhnaaGreat
namespace Go.bw
open Go
variable{g w h7:U}{e i t I b3 e5:Nat}{b0:bq}
theorem U.rC(a:g e=γ b0):g.set e b0=g:=by grind[ξ,ο]
variable{e4:IntKind}{j B b7:ύ}
def vn(h:i<=t)(f:t<=I)(k:β j=e):∃v,cc e (.ar b3 t I e) (γ (.v (.int e4 (i:Int)))) η η=γ v/\
  ∀(b:U)(a:ύ),b b3=γ (.cells a)->β a=I*e->∃c,lJ e j v b=γ (b.set b3 (.cells c))/\β c=β a/\c.take (i*e)=a.take (i*e):=by
 by_cases o:i<I
 .refine⟨_,gy h f o,λb a d p=>?_⟩;have r:i*e+(t - i)*e=t*e:=by rw[<-a8D];congr 1;omega
  have x:t*e<=I*e:=a7N _ f;have y:i*e<=β a:=ε;refine⟨_,y3 d ε,?_,?_⟩
  .rw[eY _ _ _ (by rw[lL,k];omega)]
  .rw[putAt,a7P,a9f (by rw[a7z];omega),a8G,a9L]
 .obtain rfl:i=t:=ε;obtain rfl:i=I:=ε;exact⟨_,td rfl,λb a d p=>⟨a,by rw[Yd,U.rC d],rfl,rfl⟩⟩
end Go.bw
namespace Go.Proofs.YtgchlmdfldnhnaaGreat
open Go Go.bw
theorem Fj(l9 O p:U)(r E:ύ)(k8 v:R)(k b a c:Nat)(k9:Int)(n0:k9=(c:Int))(z:aq O p 37 r k8)(l0:β r=k*37)(n2:aq l9 O 37 E v)(P:β E=b*37)(a47:0<b)(a48:a<c)(a52:c<=k)(a56:k<=100000)(a57:b<=100000):
  AC δ 180 [k8,.v (.int .i64 (a:Int)),.v (.int .i64 k9),v] p λn3 V=>aq O V 37 (r.take (a*37)++(E++r.drop (c*37))) n3:=by
 subst n0;obtain⟨f,n4,o,y,rfl,S,D,q,Q,a61,X,Y⟩:=z.ar (λZ=>by rw[Z]at l0;simp at l0;omega);obtain⟨T,n5,l1,s,rfl,a62,k2,n9,a63,a65,a68,a69⟩:=n2.ar (λZ=>by rw[Z]at P;simp at P;omega);obtain rfl:k=n4:=ε;obtain rfl:b=n5:=ε;have F:=z.1 _ _ k2;have l2:f≠T:=by rintro rfl;rw[S]at k2;cases k2
 have j:∀V:U,V T=γ (.cells s)->c8 V 37 (.ar T b l1 37)=γ (b,E):=λV z=>by
  simp only[c8,μ z];grind
 refine bh hm CP σ ?_;obtain⟨a71,l⟩:=Fh (i:=37) (b3:=f) (e5:=k) (t:=o) (I:=a) (e:=c) (e4:=.i64) (a:=.i64) ε ε;have m:¬(a:Int)=c:=ε;have n:cc 37 (.ar f k o 37) η (γ (.v (.int .i64 (a)))) η=γ (.ar f a o 37):=hQ ε;have l3:(θ 32 (R.v (.int .u8 0))++[R.J [] .nil,.J [] .nil]++[R.v (.int .i64 0),.v (.int .i64 0)]++[R.J [] .nil]).length=37:=σ;have t:(r.take (a*37)).length=a*37:=by rw[a7z];omega
 by_cases c1:(c:Int)=k
 .have a00:=eq_true c1;obtain rfl:c=k:=ε;have a01:r.drop (c*37)=[]:=a8k ε;rw[a01,a8u];refine dH (aL @l @m @a00 @n) ?_;by_cases aD:a+b<c
  .refine vm D q (j p F) ε ε ε ?_;obtain⟨h,x⟩:∃h,h=putAt y (a*37) E:=⟨_,rfl⟩;have e:β h=β y:=by rw[x,eY _ _ _ ε]
   rw[<-x];obtain⟨a02,c3,bS⟩:=vn (b3:=f) (i:=a+b) (e4:=.i64) ε X l3;obtain⟨g,k3,a03,l4⟩:=bS (p.set f (.cells h)) h (ξ _ _ _) ε;have k4:((a+b:Nat))<(c:Int):=ε;refine dH (aL @k4 @c3 @k3 @υ) ?_;refine⟨_,ι,ν z.1 S,.inr ⟨f,a+b,o,_,rfl,S,ξ _ _ _,ε,?_,by rw[Ρ,t];omega,ε,Y⟩⟩;grind[putAt,List.take_left',Ζ,List.length_take]
  .refine fN (z.first ε) ε (j p F) P (by rw[t];omega) (by rw[t];omega) λa73 V l5=>?_;obtain⟨a04,a05,a74,a06⟩:=l5.src;rw[Ρ,t,P]at a05;obtain rfl:a04=a+b:=ε;have k4:¬((a+b:Nat))<(c:Int):=ε;refine dH (c2 @a06 @k4) ?_;exact⟨_,ι,l5⟩
 have a81:c<k:=ε;obtain⟨a07,u,w,l6⟩:=p0 (i:=37) (b3:=f) (e4:=.i64) ε X;have k5:(r.drop (c*37)).length=(k - c)*37:=by rw[a7F];omega
 obtain⟨d,a83⟩:∃a08,a08=a+b+(k - c):=⟨_,rfl⟩;have a84:(a)+(b)+((k - c:Nat))=(d:Int):=ε;have A:(a)+(b)=((a+b:Nat):Int):=ε;have B:((a+b:Nat))+((k - c:Nat))=(d:Int):=ε;by_cases c2:(o)<(d:Int)
 .have l7:(d) -(a)=((d - a:Nat):Int):=ε;refine dH (cw @l @m @c1 @n @u @w @A @B @c2 @l7) ?_;refine y5 D q ε ε ε λC G a09 H I a10 a11=>?_;have a13:a+(d - a)=d:=ε;rw[a13]at I a11|-;have a14:C≠f:=by rintro rfl;rw[H]at D;cases D
  have a15:C≠T:=by rintro rfl;rw[H]at F;cases F
  obtain⟨L,a16⟩:∃L,L=y.take (a*37)++(θ (d - a) (θ 32 (R.v (.int .u8 0))++[R.J [] .nil,.J [] .nil]++[R.v (.int .i64 0),.v (.int .i64 0)]++[R.J [] .nil])).flatten++a09:=⟨_,rfl⟩;have a18:β L=G*37:=by grind[Ζ,lL,List.length_take]
  have K:L.take (a*37)=r.take (a*37):=by grind
  rw[<-a16];have M:cc 37 (.ar C d G 37) (γ (.v (.int .i64 (a)))) η η=γ (.bC C (a*37) (d - a) (G - a) 37):=gy ε I ε;have N:cc 37 (.ar C d G 37) (γ (.v (.int .i64 ((a+b:Nat))))) η η=γ (.bC C ((a+b)*37) (d -(a+b)) (G -(a+b)) 37):=gy ε I ε;have k6:(p.set C (.cells L)) T=γ (.cells s):=by rw[ο _ _ (Θ a15)];exact F
  have i:=hR (I:=a*37) (e5:=G - a) (i:=d - a) (j _ k6) (ξ p C (.cells L)) ε;rw[a7x ε]at i;obtain⟨h,x⟩:∃h,h=putAt L (a*37) E:=⟨_,rfl⟩;have e:β h=β L:=by rw[x,eY _ _ _ ε]
  rw[<-x]at i;have a19:(p.set C (.cells h)) f=γ (.cells y):=by rw[ο _ _ (Θ a14)];exact D
  have l8:=hR (I:=(a+b)*37) (e5:=G -(a+b)) (i:=d -(a+b)) (l6 _ y r a19 ε Q) (ξ p C (.cells h)) ε;rw[a7x ε]at l8;refine dH (DH @l @m @c1 @n @u @w @A @B @c2 @l7 @M @N @i @l8 @υ) ?_;refine⟨_,ι,ν z.1 (Ν z.1 H),.inr ⟨C,d,G,_,rfl,Ν z.1 H,ξ _ _ _,?_,?_,?_,I,a10⟩⟩
  .rw[eY _ _ _ ε,e,a18]
  .have:=(qc K P k5 ε).2;rw[show d*37=a*37+b*37+(k - c)*37 by omega,x,show(a+b)*37=a*37+b*37 by omega];exact this
  grind
 have M:cc 37 (.ar f k o 37) η (γ (.v (.int .i64 (d)))) η=γ (.ar f d o 37):=hQ ε;have N:cc 37 (.ar f d o 37) (γ (.v (.int .i64 (a)))) η η=γ (.bC f (a*37) (d - a) (o - a) 37):=gy ε ε ε;have i:cc 37 (.ar f d o 37) (γ (.v (.int .i64 ((a+b:Nat))))) η η=γ (.bC f ((a+b)*37) (d -(a+b)) (o -(a+b)) 37):=gy ε ε ε;have K:y.take (a*37)=r.take (a*37):=by grind
 by_cases aD:((a+b:Nat))<=(c:Int)
 .have c3:=hR (I:=a*37) (e5:=o - a) (i:=d - a) (j p F) D ε;rw[a7x ε]at c3;obtain⟨h,x⟩:∃h,h=putAt y (a*37) E:=⟨_,rfl⟩;have e:β h=β y:=by rw[x,eY _ _ _ ε]
  have a86:(h.drop (c*37)).take ((k - c)*37)=r.drop (c*37):=by
   have a27:(y.take (a*37)++E).length=(a+b)*37:=by grind
   rw[x,putAt,show c*37=(a+b)*37+(c*37 -(a+b)*37) by omega,<-a8p,aaz a27,a8p,<-Q,a8T];congr 1
   .omega
   .congr 1;omega
  rw[<-x]at c3;have a88:cc 37 (.ar f k o 37) (γ (.v (.int .i64 (c)))) η η=γ (.bC f (c*37) (k - c) (o - c) 37):=gy ε ε ε;have a29:c8 (p.set f (.cells h)) 37 (.bC f (c*37) (k - c) (o - c) 37)=γ (k - c,r.drop (c*37)):=by simp only[c8,μ (ξ p f (.cells h))];grind
  have bS:=hR (I:=(a+b)*37) (e5:=o -(a+b)) (i:=d -(a+b)) a29 (ξ p f (.cells h)) ε;rw[a7x ε,υ]at bS;obtain⟨g,k7⟩:∃g,g=putAt h ((a+b)*37) (r.drop (c*37)):=⟨_,rfl⟩;have a89:β g=β y:=by rw[k7,eY _ _ _ ε,e]
  rw[<-k7]at bS;obtain⟨a02,a30,a34⟩:=vn (b3:=f) (i:=d) (e4:=.i64) ε X l3;obtain⟨W,k3,a03,l4⟩:=a34 (p.set f (.cells g)) g (ξ _ _ _) ε;have a36:a07=.bC f (c*37) (k - c) (o - c) 37:=by grind
  subst a36;refine dH (XZ @l @m @c1 @n @u @w @A @B @c2 @aD @M @N @i @c3 @bS @a30 @k3 @υ) ?_;refine⟨_,ι,ν z.1 S,.inr ⟨f,d,o,_,rfl,S,ξ _ _ _,ε,?_,?_,ε,Y⟩⟩
  .rw[l4,k7,x,show d*37=a*37+b*37+(k - c)*37 by omega,show(a+b)*37=a*37+b*37 by omega];exact(qc K P k5 ε).2
  grind
 .have a38:y≠[]:=by rintro rfl;simp at q;omega
  have a42:s≠[]:=by rintro rfl;simp at n9;omega
  have a43:lK (.bC f ((a+b)*37) (d -(a+b)) (o -(a+b)) 37) (.ar T b l1 37) p=γ (.v (.bool κ)):=y4 rfl rfl l2 (r8 D a38) (r8 F a42);have c3:=hR (I:=(a+b)*37) (e5:=o -(a+b)) (i:=d -(a+b)) (l6 p y r D ε Q) D ε;rw[a7x ε]at c3;obtain⟨h,x⟩:∃h,h=putAt y ((a+b)*37) (r.drop (c*37)):=⟨_,rfl⟩;have e:β h=β y:=by rw[x,eY _ _ _ ε]
  rw[<-x]at c3;have k6:(p.set f (.cells h)) T=γ (.cells s):=by rw[ο _ _ (Θ l2)];exact F
  have bS:=hR (I:=a*37) (e5:=o - a) (i:=d - a) (j _ k6) (ξ p f (.cells h)) ε;rw[a7x ε,υ]at bS;refine dH (oQ @l @m @c1 @n @u @w @A @B @c2 @aD @M @N @i @a43 @c3 @bS @υ) ?_;refine⟨_,ι,ν z.1 S,.inr ⟨f,d,o,_,rfl,S,ξ _ _ _,?_,?_,?_,ε,Y⟩⟩
  .rw[eY _ _ _ ε,e,q]
  .rw[x,show d*37=a*37+b*37+(k - c)*37 by omega,show(a+b)*37=a*37+b*37 by omega];exact(qc K P k5 ε).1
  grind
theorem a0W(G p:U)(h:ύ)(L:R)(c a b:Nat)(P:Int)(n:P=(b:Int))(C:aq G p 37 h L)(S:β h=c*37)(k6:a<b)(k7:b<=c)(k8:c<=100000):
  AC δ 180 [L,.v (.int .i64 (a:Int)),.v (.int .i64 P),.J [] .nil] p λq y=>aq G y 37 (h.take (a*37)++h.drop (b*37)) q:=by
 subst n;obtain⟨d,s,f,o,rfl,z,r,T,t,k9,D,V⟩:=C.ar (λu=>by rw[u]at S;simp at S;omega);obtain rfl:c=s:=ε;have e:∀y:U,c8 y 37 (.J [] .nil)=γ (0,[]):=λy=>rfl;refine bh hm CP σ ?_;obtain⟨l0,g⟩:=Fh (i:=37) (b3:=d) (e5:=c) (t:=f) (I:=a) (e:=b) (e4:=.i64) (a:=.i64) ε ε;have i:¬(a:Int)=b:=ε;have j:cc 37 (.ar d c f 37) η (γ (.v (.int .i64 (a)))) η=γ (.ar d a f 37):=hQ ε;have l:(θ 32 (R.v (.int .u8 0))++[R.J [] .nil,.J [] .nil]++[R.v (.int .i64 0),.v (.int .i64 0)]++[R.J [] .nil]).length=37:=σ;have v:(h.take (a*37)).length=a*37:=by rw[a7z];omega
 by_cases c1:(b:Int)=c
 .have w:=eq_true c1;obtain rfl:b=c:=ε;have A:h.drop (b*37)=[]:=a8k ε;rw[A,a8u];refine dH (aL @g @i @w @j) ?_;refine vm r T (e p) ε ε ε ?_;have E:putAt o (a*37) []=o:=by simp[putAt]
  rw[E,U.rC r];obtain⟨B,c3,bS⟩:=vn (b3:=d) (i:=a) (e4:=.i64) ε D l;obtain⟨x,F,H,I⟩:=bS p o r T;have K:(a)<(b:Int):=ε;refine dH (aL @a9A @K @c3 @F) ?_;refine⟨_,ι,ν C.1 z,.inr ⟨d,a,f,_,rfl,z,ξ _ _ _,ε,?_,v,ε,V⟩⟩;grind
 have l1:b<c:=ε;obtain⟨M,N,O,Q⟩:=p0 (i:=37) (b3:=d) (e4:=.i64) ε D;have l2:(h.drop (b*37)).length=(c - b)*37:=by rw[a7F];omega
 obtain⟨k,l3⟩:∃X,X=a+(c - b):=⟨_,rfl⟩;have Y:(a)+((c - b:Nat))=(k:Int):=ε;have c2:¬(f)<(k:Int):=ε;have Z:cc 37 (.ar d c f 37) η (γ (.v (.int .i64 (k)))) η=γ (.ar d k f 37):=hQ ε;have k2:cc 37 (.ar d k f 37) (γ (.v (.int .i64 (a)))) η η=γ (.bC d (a*37) (k - a) (f - a) 37):=gy ε ε ε;have l4:o.take (a*37)=h.take (a*37):=by grind
 have aD:(a)<=(b:Int):=ε;have E:putAt o (a*37) ([])=o:=by simp[putAt]
 have c3:=hR (I:=a*37) (e5:=f - a) (i:=k - a) (e p) r ε;rw[abB,E,U.rC r]at c3;have l5:cc 37 (.ar d c f 37) (γ (.v (.int .i64 (b)))) η η=γ (.bC d (b*37) (c - b) (f - b) 37):=gy ε ε ε;have k3:M=.bC d (b*37) (c - b) (f - b) 37:=by simp_all
 subst k3;have bS:=hR (I:=a*37) (e5:=f - a) (i:=k - a) (Q p o h r ε t) r ε;rw[a7x ε]at bS;obtain⟨x,m⟩:∃x,x=putAt o (a*37) (h.drop (b*37)):=⟨_,rfl⟩;have l6:β x=β o:=by rw[m,eY _ _ _ ε]
 rw[<-m]at bS;obtain⟨B,k4,k5⟩:=vn (b3:=d) (i:=k) (e4:=.i64) ε D l;obtain⟨W,F,H,I⟩:=k5 (p.set d (.cells x)) x (ξ _ _ _) ε;have l7:(([]:ύ).length:Int)=0:=rfl;refine dH (oQ @g @i @c1 @j @N @O @Int.add_zero @Y @c2 @aD @Z @k2 @c3 @bS @k4 @F @υ) ?_;refine⟨_,ι,ν C.1 z,.inr ⟨d,k,f,_,rfl,z,ξ _ _ _,ε,?_,?_,ε,V⟩⟩;grind[putAt,List.take_left',Ζ];grind
end Go.Proofs.YtgchlmdfldnhnaaGreat
namespace Go.bw
open Go
structure kp(c:U)(k:Nat)(a:R)(n:Nat)(us:ύ):Prop where
 src:∀b,c.sub b->c8 b k a=γ (n,us)
 len:gX a=γ (.v (.int .i64 (n:Int)))
 one:a.cells=[a]
 full:β us=n*k
variable{g w h7:U}{j B b7:ύ}{e i t I b3 e5:Nat}
def kp.mono{a:R}(b:kp g e a i j)(c:g.sub w):kp w e a i j:=⟨λd f=>b.src d (π c f),b.len,b.one,b.full⟩
theorem kp.J{s:U}{b:Nat}{a:ύ}{o:Own}(c:ba b a):kp s b (.J a o) (β a) (flat a):=⟨λh _=>by
 have:=a7L.2 λd f=>decide_eq_true (c d f);simp only[c8,this,if_true],rfl,rfl,dg c⟩
variable{s b8:R}
theorem aq.an(b:aq w g e j s)(h:0<e):∃a,β j=a*e/\kp g e s a j:=by
 obtain⟨a,c,_,d⟩:=b.src;refine⟨a,c,λk f=>?_,d,?_,c⟩
 .obtain⟨o,p,r,_⟩:=(aq.mono b f).src;grind
 .rcases b.2 with⟨_,rfl|rfl⟩|⟨x,a,y,z,rfl,_⟩<;>rfl
variable{u b2:R -> U -> Prop}{b9:FuncId}{q:Program}
theorem AC.o4(f:View g s w b8)(h:AC q b9 (j++b8::B) w u):AC q b9 (j++s::B) g u:=by
 refine h.pre λz k o a p=>?_;have r:=a.2 (β j) s σ;obtain⟨x,b,C⟩:=f o k _ p r;refine⟨x,?_,b⟩;have c:=a.mono b.le;refine⟨by rw[c.1];simp,λd y D=>?_⟩;by_cases E:d=β j;simp_all
 .refine c.2 d y ?_;grind
end Go.bw
namespace Go.Proofs.YtgchlmdfldnhnaaGreat
open Go Go.bw
theorem a0X(a:Nat)(z:a<=100000000)(d:U):
  AC δ 301 [.J [] .nil,.v (.int .i64 (a:Int))] d λp r=>aq d r 1 [] p:=by
 refine bh hm Ud σ ?_;have f:¬(a:Int)<0:=ε;have h:(a:Int) -(0 - 0)=a:=ε;have k:cc 1 (.J [] .nil) η (γ (.v (.int .i64 0))) η=γ (.J [] .nil):=y2;by_cases c1:(0:Int)<a
 .refine dH (aZ @f @h @c1 @k @abf) ?_;refine DL ε ε ε λb c C o D x E=>?_;have y:cc 1 (.ar b a c 1) η (γ (.v (.int .i64 0))) η=γ (.ar b 0 c 1):=hQ (t:=0) ε;refine dH @y ?_;refine⟨_,ι,ν ι o,.inr ⟨b,0,c,_,rfl,o,ξ _ _ _,?_,σ,σ,ε,x⟩⟩;simp_all
 .refine dH (aZ @f @h @c1 @k @abf) ?_;exact⟨_,ι,aq.nil ι⟩
def a0Y(d:U)(f h:R)(C:Own)(k p:Nat)(T i:ύ)(y:kp d 1 f k T)(z:kp d 1 h p i)(k5:k<=100000)(k6:p<=100000):
  AC δ 286 [.J [f,h] C] d λB b=>aq d b 1 (T++i) B:=by
 refine bh hm TR σ ?_;have H:=y.len;have I:=z.len;have u:bL d 1 (.J [f,h] C) [f,h]:=bL.J λk7 v=>by
  simp only[a7S,a8f,or_false]at v;rcases v with rfl|rfl
  .rw[y.one];rfl
  .rw[z.one];rfl
 have V:(([f,h].length):Int)=2:=rfl;obtain⟨K,W,M⟩:=u.get 0 f rfl;obtain⟨N,e,O⟩:=u.get 1 h rfl;have w:∀b,d.sub b->cO κ 1 b K=γ f:=λb j=>by rw[M.ld b j κ 1 ε (by rw[y.one];simp),y.one];rfl
 have A:∀b,d.sub b->cO κ 1 b N=γ h:=λb j=>by rw[O.ld b j κ 1 ε (by rw[z.one];simp),z.one];rfl
 have Q:((0:Nat):Int)=0:=rfl;have X:((1:Nat):Int)=1:=rfl;rw[Q]at W;rw[X]at e;have Y:=w d ι;have Z:=A d ι;have aZ:¬(k:Int)<0:=ε;have bt:¬(k)+(p:Int)<0:=ε;refine dH @V ?_;refine cZ (λa b=>b=d/\a 0=.J [f,h] C/\a 9=.J [f,h] C/\a 10=.v (.int .i64 2)/\((a 11=.v (.int .i64 0)/\a 3=.v (.int .i64 0))\/(a 11=.v (.int .i64 1)/\a 3=.v (.int .i64 k))\/(a 11=.v (.int .i64 2)/\a 3=.v (.int .i64 ((k)+(p))))))
  (λa _=>match a 11 with|.v (.int _ l)=>2 - l.toNat|_=>0) ⟨rfl,?_⟩ ?_
 .refine dH @V ?_;simp
 rintro a m⟨rfl,D,E,F,n⟩;rcases n with⟨r,o⟩|⟨r,o⟩|⟨r,o⟩
 .refine dH (cw @D @E @F @r @o @W @Y @H @aZ @aba) ?_;simp
 .refine dH (dz @D @E @F @r @o @e @Z @I @bt) ?_;simp
 .have k2:(k)+(p)=((k+p:Nat):Int):=ε;rw[k2]at o;simp -dsimp -implicitDefEqProofs (disch:=first|omega|assumption|(simp only[bd,Nat.reduceAdd];try omega)) only[go_sem,simprocAttr,-List.reduceReplicate,↓fk,D,E,F,r,o];refine ak (a0X (k+p) ε _) ?_;intro k8 k9 k3;simp -dsimp -implicitDefEqProofs (disch:=first|omega|assumption|(simp only[bd,Nat.reduceAdd];try omega)) only[go_sem,simprocAttr,-List.reduceReplicate,↓fk,D,E,F,r,o,V];refine cZ (λa b=>a 25=.J [f,h] C/\a 26=.v (.int .i64 2)/\((a 27=.v (.int .i64 0)/\aq m b 1 [] (a 6))\/(a 27=.v (.int .i64 1)/\aq m b 1 T (a 6))\/(a 27=.v (.int .i64 2)/\aq m b 1 (T++i) (a 6))))
   (λa _=>match a 27 with|.v (.int _ l)=>2 - l.toNat|_=>0) ?_ ?_
  .simp -dsimp -implicitDefEqProofs (disch:=first|omega|assumption|(simp only[bd,Nat.reduceAdd];try omega)) only[go_sem,simprocAttr,-List.reduceReplicate,↓fk,D,E,F,r,o,V];exact .inl k3
  rintro a g⟨G,L,n⟩;have P:=y.full;have q:=z.full;rcases n with⟨x,c⟩|⟨x,c⟩|⟨x,c⟩
  .have S:=w g c.1;generalize s:a 6=eH at c;simp -dsimp -implicitDefEqProofs (disch:=first|omega|assumption|(simp only[bd,Nat.reduceAdd];try omega)) only[go_sem,simprocAttr,-List.reduceReplicate,↓fk,G,L,x,W,S,s];refine fN c ε (y.src g c.1) P (by rw[a7E,P];omega) (by rw[a7E,P];omega) λk4 b t=>?_;simp -dsimp -implicitDefEqProofs (disch:=first|omega|assumption|(simp only[bd,Nat.reduceAdd];try omega)) only[go_sem,simprocAttr,-List.reduceReplicate,↓fk,G,L,x,W,S];exact .inr (.inl t)
  .have S:=A g c.1;generalize s:a 6=eH at c;simp -dsimp -implicitDefEqProofs (disch:=first|omega|assumption|(simp only[bd,Nat.reduceAdd];try omega)) only[go_sem,simprocAttr,-List.reduceReplicate,↓fk,G,L,x,e,S,s];refine fN c ε (z.src g c.1) q (by rw[P,q];omega) (by rw[P,q];omega) λk4 b t=>?_;simp -dsimp -implicitDefEqProofs (disch:=first|omega|assumption|(simp only[bd,Nat.reduceAdd];try omega)) only[go_sem,simprocAttr,-List.reduceReplicate,↓fk,G,L,x,e,S];exact .inr (.inr t)
  .refine dH (aD @G @L @x) ?_;exact⟨_,ι,c⟩
def a0Z(a:Nat)(C:a<=100000000)(d:U):
  AC δ 302 [.J [] .nil,.v (.int .i64 (a:Int))] d λp r=>aq d r 37 [] p:=by
 refine bh hm Uf σ ?_;have f:¬(a:Int)<0:=ε;have h:(a:Int) -(0 - 0)=a:=ε;have k:cc 37 (.J [] .nil) η (γ (.v (.int .i64 0))) η=γ (.J [] .nil):=y2;by_cases c1:(0:Int)<a
 .refine dH (aZ @f @h @c1 @k @abf) ?_;refine DL ε ε ε λb c D o E x y=>?_;have z:cc 37 (.ar b a c 37) η (γ (.v (.int .i64 0))) η=γ (.ar b 0 c 37):=hQ (t:=0) ε;refine dH @z ?_;refine⟨_,ι,ν ι o,.inr ⟨b,0,c,_,rfl,o,ξ _ _ _,?_,σ,σ,ε,x⟩⟩;rw[Ρ,lL,y];simp;omega
 .refine dH (aZ @f @h @c1 @k @abf) ?_;exact⟨_,ι,aq.nil ι⟩
def a1a(d:U)(f h:R)(C:Own)(k p:Nat)(T i:ύ)(y:kp d 37 f k T)(z:kp d 37 h p i)(k5:k<=100000)(k6:p<=100000):
  AC δ 287 [.J [f,h] C] d λB b=>aq d b 37 (T++i) B:=by
 refine bh hm TT σ ?_;have H:=y.len;have I:=z.len;have u:bL d 1 (.J [f,h] C) [f,h]:=bL.J λk7 v=>by
  simp only[a7S,a8f,or_false]at v;rcases v with rfl|rfl
  .rw[y.one];rfl
  .rw[z.one];rfl
 have V:(([f,h].length):Int)=2:=rfl;obtain⟨K,W,M⟩:=u.get 0 f rfl;obtain⟨N,e,O⟩:=u.get 1 h rfl;have w:∀b,d.sub b->cO κ 1 b K=γ f:=λb j=>by rw[M.ld b j κ 1 ε (by rw[y.one];simp),y.one];rfl
 have A:∀b,d.sub b->cO κ 1 b N=γ h:=λb j=>by rw[O.ld b j κ 1 ε (by rw[z.one];simp),z.one];rfl
 have Q:((0:Nat):Int)=0:=rfl;have X:((1:Nat):Int)=1:=rfl;rw[Q]at W;rw[X]at e;have Y:=w d ι;have Z:=A d ι;have aZ:¬(k:Int)<0:=ε;have bt:¬(k)+(p:Int)<0:=ε;refine dH @V ?_;refine cZ (λa b=>b=d/\a 0=.J [f,h] C/\a 9=.J [f,h] C/\a 10=.v (.int .i64 2)/\((a 11=.v (.int .i64 0)/\a 3=.v (.int .i64 0))\/(a 11=.v (.int .i64 1)/\a 3=.v (.int .i64 k))\/(a 11=.v (.int .i64 2)/\a 3=.v (.int .i64 ((k)+(p))))))
  (λa _=>match a 11 with|.v (.int _ l)=>2 - l.toNat|_=>0) ⟨rfl,?_⟩ ?_
 .refine dH @V ?_;simp
 rintro a m⟨rfl,D,E,F,n⟩;rcases n with⟨r,o⟩|⟨r,o⟩|⟨r,o⟩
 .refine dH (cw @D @E @F @r @o @W @Y @H @aZ @aba) ?_;simp
 .refine dH (dz @D @E @F @r @o @e @Z @I @bt) ?_;simp
 .have k2:(k)+(p)=((k+p:Nat):Int):=ε;rw[k2]at o;simp -dsimp -implicitDefEqProofs (disch:=first|omega|assumption|(simp only[bd,Nat.reduceAdd];try omega)) only[go_sem,simprocAttr,-List.reduceReplicate,↓fk,D,E,F,r,o];refine ak (a0Z (k+p) ε _) ?_;intro k8 k9 k3;simp -dsimp -implicitDefEqProofs (disch:=first|omega|assumption|(simp only[bd,Nat.reduceAdd];try omega)) only[go_sem,simprocAttr,-List.reduceReplicate,↓fk,D,E,F,r,o,V];refine cZ (λa b=>a 25=.J [f,h] C/\a 26=.v (.int .i64 2)/\((a 27=.v (.int .i64 0)/\aq m b 37 [] (a 6))\/(a 27=.v (.int .i64 1)/\aq m b 37 T (a 6))\/(a 27=.v (.int .i64 2)/\aq m b 37 (T++i) (a 6))))
   (λa _=>match a 27 with|.v (.int _ l)=>2 - l.toNat|_=>0) ?_ ?_
  .simp -dsimp -implicitDefEqProofs (disch:=first|omega|assumption|(simp only[bd,Nat.reduceAdd];try omega)) only[go_sem,simprocAttr,-List.reduceReplicate,↓fk,D,E,F,r,o,V];exact .inl k3
  rintro a g⟨G,L,n⟩;have P:=y.full;have q:=z.full;rcases n with⟨x,c⟩|⟨x,c⟩|⟨x,c⟩
  .have S:=w g c.1;generalize s:a 6=eH at c;simp -dsimp -implicitDefEqProofs (disch:=first|omega|assumption|(simp only[bd,Nat.reduceAdd];try omega)) only[go_sem,simprocAttr,-List.reduceReplicate,↓fk,G,L,x,W,S,s];refine fN c ε (y.src g c.1) P (by rw[a7E,P];omega) (by rw[a7E,P];omega) λk4 b t=>?_;simp -dsimp -implicitDefEqProofs (disch:=first|omega|assumption|(simp only[bd,Nat.reduceAdd];try omega)) only[go_sem,simprocAttr,-List.reduceReplicate,↓fk,G,L,x,W,S];exact .inr (.inl t)
  .have S:=A g c.1;generalize s:a 6=eH at c;simp -dsimp -implicitDefEqProofs (disch:=first|omega|assumption|(simp only[bd,Nat.reduceAdd];try omega)) only[go_sem,simprocAttr,-List.reduceReplicate,↓fk,G,L,x,e,S,s];refine fN c ε (z.src g c.1) q (by rw[P,q];omega) (by rw[P,q];omega) λk4 b t=>?_;simp -dsimp -implicitDefEqProofs (disch:=first|omega|assumption|(simp only[bd,Nat.reduceAdd];try omega)) only[go_sem,simprocAttr,-List.reduceReplicate,↓fk,G,L,x,e,S];exact .inr (.inr t)
  .refine dH (aD @G @L @x) ?_;exact⟨_,ι,c⟩
def gf(h a:U)(b c:Nat)(d:Except Int (List aj)×af)(k:R):Prop:=
 match d.1 with
 |.error o=>bz a b c d.2/\Ext b c h a/\o≠0/\k=.aJ [.J [] .nil,.v (.int .i64 o)]
 |.ok bF=>∃p f,aw bA bF p/\k=.aJ [f,.v (.int .i64 0)]/\dA h a b c d.2 37 (flat p) f/\(bF=[]->f=.J [] .nil)
theorem gf.base{d f h:U}{b c:Nat}{o:Except Int (List aj)×af}{k:R}(a:gf f h b c o k)(p:Ext b c d f):gf d h b c o k:=by
 unfold gf at a|-;split at a
 .exact⟨a.1,p.trans a.2.1,a.2.2⟩
 grind[dA.base]
variable{s b8:R}{g w h7:U}{e i t I b3 e5:Nat}
theorem gf.shape{a:Except Int (List aj)×af}(d:gf g w e i a s):∃b c,s=.aJ [b,.v (.int .i64 c)]:=by grind[gf]
def a1b(b:U)(d h:Nat)(f:af)(D:bz b d h f)(a:List Ω)(k:ύ)(o:Own)(c:Nat)(E:1<=c)(F:c<=8)(p:aw isRow a k)(G:β a<=100000):
  AC δ 176 [.J k o,.bG 110 [ej d c] []] b λr L=>gf b L d h (oZ f c a) r:=by
 refine bh hm Rc σ ?_;have P:=p.len;refine an @P ?_;refine ak (yL (β a) ε b) ?_;rintro _ b⟨rfl,rfl⟩;refine bU ?_;have x:a6.bV (β a)<=100000:=by unfold a6.bV;omega
 refine ak (a0Q a k o (a6.bV (β a)) b p G x) ?_;rintro _ S⟨y,gs,T,rfl,V⟩;refine bU ?_;have z:=o3 (g:=a6.bV (β a)) (l:=a);refine ak (a0R S d h f (D.mono y) _ gs T c E F V (λW e=>by have:=z.2 W e;omega) (by rw[z.1];exact x)) ?_;intro r i g;have C:=gf.base (o:=oZ f c a) g (Γ y);obtain⟨j,l,rfl⟩:=C.shape;refine bU ?_;exact⟨_,ι,C⟩
def Fk(d o:U)(b f:Nat)(h:af)(C:bz d b f h)(c:List Ω)(k:ύ)(p:R)(D:aq d o 1 (flat k) p)(a:Nat)(E:1<=a)(F:a<=8)(r:aw isRow c k)(G:β c<=100000):
  AC δ 176 [p,.bG 110 [ej b a] []] o λx y=>gf d y b f (oZ h a c) x:=by
 obtain⟨L,P,z⟩:=aq.Fa D r;refine AC.o4 (j:=[]) P ?_;exact(a1b L b f h (C.mono z) c k .any a E F r G).mono λx y S=>gf.base S (Γ z)
def a1c(b:U)(d h:Nat)(f:af)(D:bz b d h f)(a:List (aj))(k:ύ)(o:Own)(c:Nat)(E:1<=c)(F:c<=8)(p:aw bA a k)(G:β a<=100000):
  AC δ 179 [.J k o,.bG 181 [ej d c] []] b λr L=>gf b L d h (ko f c a) r:=by
 refine bh hm Rj σ ?_;have P:=p.len;refine an @P ?_;refine ak (yL (β a) ε b) ?_;rintro _ b⟨rfl,rfl⟩;refine bU ?_;have x:a6.bV (β a)<=100000:=by unfold a6.bV;omega
 refine ak (Ff a k o (a6.bV (β a)) b p G x) ?_;rintro _ S⟨y,gs,T,rfl,V⟩;refine bU ?_;have z:=o3 (g:=a6.bV (β a)) (l:=a);refine ak (Fg S d h f (D.mono y) _ gs T c E F V (λW e=>by have:=z.2 W e;omega) (by rw[z.1];exact x)) ?_;intro r i g;have C:=gf.base (o:=ko f c a) g (Γ y);obtain⟨j,l,rfl⟩:=C.shape;refine bU ?_;exact⟨_,ι,C⟩
def Fl(d o:U)(b f:Nat)(h:af)(C:bz d b f h)(c:List (aj))(k:ύ)(p:R)(D:aq d o 37 (flat k) p)(a:Nat)(E:1<=a)(F:a<=8)(r:aw bA c k)(G:β c<=100000):
  AC δ 179 [p,.bG 181 [ej b a] []] o λx y=>gf d y b f (ko h a c) x:=by
 obtain⟨L,P,z⟩:=aq.vl D r;refine AC.o4 (j:=[]) P ?_;exact(a1c L b f h (C.mono z) c k .any a E F r G).mono λx y S=>gf.base S (Γ z)
def Fm:∀(a:List aj)(b:fY),(a.foldl fw b).size=b.size+(a.map (·.size)).sum
 |[],b=>by simp
 |c::a,b=>by rw[a8j,Fm a];simp[fw];omega
def Fo:∀(b:List (Ω×Bool))(a:fY),(b.foldl eu a).size=a.size
 |[],a=>rfl
 |c::b,a=>by rw[a8j,Fo b];unfold eu;split<;>rfl
def yT(a:bO):(fx a).size=β a.rows+(a.kids.map (·.size)).sum:=by unfold fx;rw[Fm,Fo]
structure qd(d:Nat)(k:aj)(n:bO):Prop where
 ok:ea d n=ζ
 eq:k=gA n
 size:k.size=β n.rows+(n.kids.map (·.size)).sum
 q0:k.size<=1048576
variable{A j6:aj}{c0:bO}
def vo(a:ga e c0=γ A):qd e A c0:=by
 unfold ga at a;split at a
 .rename_i b;split at a
  .cases a
  .rename_i c;obtain rfl:=Δ a;exact⟨b,rfl,yT c0,by show(fx c0).size<= _;omega⟩
 .cases a
variable{H:af}
def tE(a:iV H e A=γ c0):qd e A c0/\(c0.kind=2\/c0.kind=3):=by
 unfold iV at a;split at a
 .cases a
 .rename_i d hm;split at a
  .rename_i b;obtain rfl:=Δ a;refine⟨?_,b⟩;unfold di at hm;split at hm
   .cases hm
   .split at hm
    .cases hm
    .split at hm
     .rename_i c;obtain rfl:=Δ hm;exact vo c
     .cases hm
  .cases a
theorem qd.leaf(b:qd e A c0)(c:c0.kind=2):1<=β c0.rows/\β c0.rows<=4/\c0.kids=[]/\(∀a∈c0.rows,β a.1=e/\a.2=ζ):=by have:=b.ok;simp_all [ea]
theorem qd.inner(h:qd e A c0)(f:c0.kind=3):c0.rows=[]/\2<=β c0.kids/\β c0.kids<=4/\(∀a∈c0.kids,β a.key=e/\a≠aG/\fl e a=ζ/\1<=a.size/\a.size<A.size):=by
 have d:=h.ok;unfold ea at d;have r:¬c0.kind=1:=by rw[f];decide
 have x:¬c0.kind=2:=by rw[f];decide
 rw[if_neg r,if_neg x,if_pos f]at d;simp only[Κ,a7L,decide_eq_true_eq,a8V,decide_eq_false_iff_not]at d;obtain⟨⟨_,y⟩,⟨⟨z,C⟩,D⟩,k⟩:=d;have o:=a7y z;have E:∀a∈c0.kids,1<=a.size:=λa b=>by
  simp_all [fl]
 refine⟨o,C,D,λa b=>⟨(k a b).1,(k a b).2,y a b,E a b,?_⟩⟩;have p:=h.size;rw[o]at p;simp only[a7E]at p;have F:∀(c:List aj),(∀a∈c,1<=a.size)->(β c:Int)<=(c.map (·.size)).sum:=by
  intro c
  induction c with
  |nil=>intro _;simp
  |cons G c ih=>grind
 obtain⟨L,P,S⟩:=aaf b;grind
def gO(d:Nat)(b:Ω):Nat->af->aj->Except Int (List aj)×af
  |0,c,_=>(.error 21,c)
  |h+1,c,k=>match iV c d k with
    |none=>(.error 21,c)
    |some a=>
      if a.kind=2 then
        (if lh (a.rows.map Α) b=ζ then(.error 8,c)
         else oZ c d ((a.rows.map Α).take (fp (a.rows.map Α) b)++b::(a.rows.map Α).drop (fp (a.rows.map Α) b)))
      else match a.kids[hU b a]? with
        |none=>(.error 21,c)
        |some o=>match gO d b h c o with
          |(.error p,f)=>(.error p,f)
          |(.ok r,f)=>ko f d (a.kids.take (hU b a)++(r++a.kids.drop (hU b a+1)))
theorem yU(b:Ω):∀(a:List Ω),a≠[]->a6.da bE b a<β a
 |[],c=>absurd rfl c
 |[_],_=>by simp[a6.da]
 |_::d::f,_=>by
  have:=yU b (d::f) σ;grind[a6.da,List.length_cons]
theorem yV(o:Nat)(p:Ω):∀(d:Nat)(c f:af)(h:aj)(b:List aj),gO o p d c h=(.ok b,f)->1<=β b/\β b<=3
 |0,c,f,h,b,a=>by rw[gO]at a;simp_all
 |d+1,c,f,h,b,a=>by
  rw[gO]at a;split at a
  .simp_all
  rename_i L x;obtain⟨r,y⟩:=tE x;split at a
  .rename_i k;obtain⟨z,C,_⟩:=r.leaf k;split at a
   .simp_all
   .have:=rB a;rw[this];simp only[a7E,a7X,a6.chunks,(o3).1,a6.bV,Ρ,a7I,a7z,a7F,a7Q];omega
  .rename_i k;obtain⟨_,z,C,_⟩:=r.inner (y.resolve_left k);split at a
   .simp_all
   .rename_i D P;split at a
    .simp_all
    .rename_i E F G;have ih:=yV o p d c F D E G;have:=rB a;rw[this];simp only[a7E,a7X,a6.chunks,(o3).1,a6.bV,Ρ,a7z,a7F];omega
theorem a1d(C m:Nat)(o:Ω)(D:Own)(r:Nat)(n4:1<=r)(n5:r<=8):∀(P:Nat)(S:U)(E:af)(y:aj)(n q s:Own),bz S C m E->β y.sum=32->y.cL->0<P->y.size<P->
  AC δ 111 [ej C r,.agg (ag y n q s),.J (ab o) D] S λZ b03=>gf S b03 C m (gO r o P E y) Z:=by
 intro P
 induction P with
 |zero=>intro S E y n q s e n9 a30 b63 b04;omega
 |succ P ih=>
 intro S E y n q s e n9 a30 b64 b04;refine bh hm Pn σ ?_;have f:∀a34,(R.agg a34).cells=a34:=λ_=>rfl;have B:∀d b c z x a36:R,putAt [d,b,c] 0 [z,x,a36]=[z,x,a36]:=λ_ _ _ _ _ _=>rfl;have F:∀d b c,aX ζ 3 [d,b,c]=.agg [d,b,c]:=λ_ _ _=>rfl;have g:∀d b,aX ζ 2 [d,b]=.agg [d,b]:=λ_ _=>rfl;have i:∀d b:R,List.take 2 [d,b]=[d,b]:=λ_ _=>rfl;have T:∀d b c:R,List.take 3 [d,b,c]=[d,b,c]:=λ_ _ _=>rfl;have H:∀d b c:R,[d,b,c].length=3:=λ_ _ _=>rfl;have b05:∀d b c:R,aX κ 1 [d,b,c]=d:=λ_ _ _=>rfl;have a38:∀d b c:R,aX κ 1 ([d,b,c].drop 2)=c:=λ_ _ _=>rfl;have a42:=aV (a7:=n) (h5:=q) (j1:=s) n9;have a43:=a42.len;refine an @f ?_;refine aR λdB a47=>?_;refine an (c2 @f @a43) ?_;refine aR λeI l0=>?_;have a00:dB≠eI:=by rintro rfl;rw[ξ]at l0;cases l0
 have b06:S eI=none:=by rw[ο _ _ (Θ a00)]at l0;exact l0
 obtain⟨I,l1⟩:∃I:U,I=(S.set dB (.cells [.ptr C 0,.v (.int .i64 (r))])).set eI (.cells (ag y n q s)):=⟨_,rfl⟩;have k2:S.sub I:=by rw[l1];exact ν (ν ι a47) b06
 have aL:I eI=γ (.cells (ag y n q s)):=by rw[l1,ξ]
 have aD:I dB=γ (.cells [.ptr C 0,.v (.int .i64 (r))]):=by rw[l1,ο _ _ a00,ξ]
 refine an (bl @f @a43 @ο @a00 @ξ a42.t37 @i @g) ?_;rw[<-l1];refine ak (yP I C m E (e.mono k2) y n q s n9 a30 r n4 n5) ?_;rintro Z a01⟨l2,l3⟩;obtain⟨a48,h⟩:∃a48,a48=gO r o (P+1) E y:=⟨_,rfl⟩;rw[<-h];rw[gO]at h;cases a02:iV E r y with
 |none=>rw[a02]at l3 h;obtain rfl:=l3;simp only at h;subst h;simp -dsimp -implicitDefEqProofs (disch:=first|omega|assumption|(simp only[bd,Nat.reduceAdd];try omega)) only[go_sem,simprocAttr,-List.reduceReplicate,f,B,H];refine aR λK M=>?_;refine an (aZ @f @B @H @F @υ) ?_;have a52:=π (π k2 l2) (ν (b0:=.cells [.v (.int .u8 0),.J [] .nil,.J [] .nil]) ι M);exact⟨_,ι,e.mono a52,Γ a52,Μ,rfl⟩
 |some a=>
  rw[a02]at l3 h;simp only at h;obtain⟨z,x,rfl,b07⟩:=l3;obtain⟨a56,b08⟩:=tE a02;simp -dsimp -implicitDefEqProofs (disch:=first|omega|assumption|(simp only[bd,Nat.reduceAdd];try omega)) only[go_sem,simprocAttr,-List.reduceReplicate,f,B,H];refine aR λK M=>?_;obtain⟨G,l4⟩:∃G:U,G=a01.set K (.cells [.v (.int .u8 (a.kind.toNat)),z,x]):=⟨_,rfl⟩;have a03:a01.sub G:=by rw[l4];exact ν ι M
  have bl:G K=γ (.cells [.v (.int .u8 (a.kind.toNat)),z,x]):=by rw[l4,ξ]
  have a57:=fP a.kind 2 ε;simp only[aaA]at a57;rw[show φ 2=2 from rfl]at a57;refine an (cr @f @B @H @F @υ @ξ @b05) ?_;rw[υ,<-l4];obtain⟨b09,l5,L,a04,l6,a61,j,b10,b11⟩:=b07;have b12:gB a01 a z x l5 L:=⟨a61,j,(bL.dq a04 ε rfl (a61.cells λ_ _=>dR.cells)).mono l6.1,bL.dq l6 ε rfl (j.cells λ_ _=>Ξ),b10,b11⟩;have k3:=b12.mono a03;have a62:=(e.mono (π k2 l2)).cI M;have a63:=e.cI a47;have l7:=π k2 (π l2 a03);have a65:=a03 _ _ (l2 _ _ aD);have a68:=e.mono l7;by_cases N:a.kind=2
  .rw[if_pos N]at h;have a05:((a.kind.toNat:Int)=2)=True:=by rw[N];simp
   refine an (cr @f @B @H @F (μ bl) @a05 @T) ?_;refine ak (yO a l5 L z x G k3) ?_;rintro d t⟨b13,a69,u⟩;have b14:=bL.dq u ε rfl (a69.cells λ_ _=>ρ);refine an @f ?_;have b65:(a.rows.map Α).length=β a.rows:=a7Q _;obtain⟨b15,b16,_,_⟩:=a56.leaf N;generalize b17:a.rows.map Α=k4 at*;refine ak (F8 k4 b13 d o D t a69 b14 ε) ?_;rintro _ t⟨rfl,b66,rfl⟩;have b18:=u.1 _ _ bl;have a06:=u.1 _ _ a65;generalize fp k4 o=k at*;cases a71:lh k4 o with
   |true=>rw[if_pos a71]at h;subst h;refine an @f ?_;exact⟨_,ι,a68.mono u.1,Γ (π l7 u.1),Μ,rfl⟩
   |false=>
    rw[if_neg (by simp[a71])]at h;have b19:pU 1 U.emp [R.J (ab o) D] (c7 (λ_ _=>True) ())=True:=eq_true (gY (by simp[ba,τ]) σ λ_ _=>trivial);refine an (dz @f (μ b18) (μ a06) @F @g @i @T @b19 @sO) ?_;refine ak (yO a l5 L z x t (k3.mono u.1)) ?_;rintro a4 b67⟨a07,k5,k6⟩;have b20:=k6.1 _ _ a06;refine an (bt @f (μ b20) @F @g @i @T) ?_;rw[b17]at k5;refine gY (by simp[ba,τ]) σ λa08 a73=>?_;have b21:flat [R.J (ab o) D]=[R.J (ab o) D]:=rfl;rw[b21,a8M];have V:=aq.new (ob:=.cells [R.J (ab o) D]) k6 a73;have b22:=Ν k6.1 a73;rw[o2 k5]at V;obtain⟨p,l⟩:∃p:U,p=t.set a08 (.cells [R.J (ab o) D]):=⟨_,rfl⟩;have a74:t.sub p:=by rw[l];exact ν ι b22
    have b23:p a08=γ (.cells [R.J (ab o) D]):=by rw[l,ξ]
    rw[<-l]at V;have b68:=k5.len;have l8:=a74 _ _ a06;have a09:=V.1 _ _ l8;refine an (bt @f (μ a09) @F @g @i @T) ?_;refine ak (a0V p _ a07 a4 V (by grind) k ε ε _ a08 b23) ?_;intro dQ a10 v;have b24:=v.1 _ _ l8;have l9:aw isRow (k4.take k++o::k4.drop k) (a07.take k++R.J (ab o) D::a07.drop k):=(k5.take k).append ⟨⟨D,rfl⟩,k5.drop k⟩;rw[<-o2 l9]at v;refine an (bt @f (μ b24) @F @g @i @T) ?_;have a81:=π l7 (π u.1 a74);refine ak (Fk p a10 C m E (e.mono a81) _ _ dQ v r n4 n5 l9 Ι) ?_;intro Z b25 w;rw[<-h]at w;obtain⟨b26,b27,rfl⟩:=w.shape;refine an @f ?_;exact⟨_,ι,gf.base w (Γ a81)⟩
  .have l8:=b08.resolve_left N;rw[if_neg N]at h;have a05:¬(a.kind.toNat:Int)=2:=λW=>N (by simp_all);refine an (cr @f @B @H @F (μ bl) @a05 @T) ?_;refine ak (F7 a l5 L z x o D G k3) ?_;rintro _ G⟨rfl,rfl⟩;obtain⟨b69,b15,b16,b28⟩:=a56.inner l8;have a11:hU o a<β a.kids:=by grind[yU,List.length_map]
   generalize hU o a=k at*;have a13:=Τ a11;have a83:a.kids[k]'a11∈a.kids:=a8b _;rw[a13]at h;simp only at h;generalize a.kids[k]'a11=c at a13 a83 h;obtain⟨b70,b29,a84,b30,O,Q,X,rfl⟩:=k3.kids.get a13;obtain⟨_,_,_,b71,b72⟩:=b28 c a83;obtain⟨Y,n0⟩:∃Y:U,Y=b09.set K (.cells [.v (.int .u8 (a.kind.toNat)),z,x]):=⟨_,rfl⟩;have n2:=aq.new (ob:=.cells [.v (.int .u8 (a.kind.toNat)),z,x]) l6 M;rw[<-l4,<-n0]at n2;have b31:=Ν l6.1 M;have a86:=π k2 a04.1;have a88:S.sub Y:=by rw[n0];exact ν a86 (Ν a86 b31)
   have b32:Y K=γ (.cells [.v (.int .u8 (a.kind.toNat)),z,x]):=by rw[n0,ξ]
   have a09:Y dB=γ (.cells [.ptr C 0,.v (.int .i64 (r))]):=by
    have:dB≠K:=by grind
    rw[n0,ο _ _ this];exact a04.1 _ _ aD
   have b33:=dA.of n2 (e.mono a88) Ext.refl;obtain⟨b73,b34,a89⟩:=k3.iM.get k _ b29;have a90:=aV (a7:=O) (h5:=Q) (j1:=X) a84;have b35:(R.agg (ag c O Q X)).cells=ag c O Q X:=rfl;rw[b35]at a89;have a92:=a89.ld G ι ζ 37 ε (by rw[a90.len];omega);rw[show aX ζ 37 (ag c O Q X)=.agg (ag c O Q X) by rw[aX,if_pos rfl,a90.t37]]at a92;refine an (cw @f (μ bl) (μ a65) @F @g @i @T @a38 @b34 @a92) ?_;refine ak (ih G E c O Q X a68 a84 b30 ε ε) ?_;intro Z t a14;have a94:=λk7 k8 W=>yV r o P E k7 c k8 W;generalize gO r o P E c=b36 at h a14 a94;obtain⟨res,k7⟩:=b36;cases res with
   |error b74=>obtain⟨n3,b37,a95,rfl⟩:=a14;simp only at h n3;subst h;refine an (c2 @f @a95) ?_;exact⟨_,ι,n3,(Γ l7).trans b37,a95,rfl⟩
   |ok k8=>
    obtain⟨k9,b75,a15,rfl,⟨b76,a16,a18,a96⟩,_⟩:=a14;obtain⟨b77,b78⟩:=a94 k7 k8 rfl;simp only at h a18;have b38:=a15.len;have b39:(flat k9).length=β k8*37:=by rw[dg (a15.cells λ_ _=>Ξ),b38]
    have b40:(flat L).length=β a.kids*37:=by rw[dg (j.cells λ_ _=>Ξ),j.len]
    obtain⟨A,a97,a98,a19,rfl,a99,b41,b42,b43,b44,b45,b46⟩:=aq.ar a16 (by grind);have b47:=a96.trans (Γ a16.1);have n3:=a18.mono a16.1;obtain⟨b48,k6,b49,b50⟩:=b33.step b47 n3;have a27:=a18.cI a99;have b51:G A=none:=by
     cases b52:G A with
     |none=>rfl
     |some b79=>have:=a96 _ _ a27.1 a27.2 b52;rw[a99]at this;cases this
    have b53:∀b b00 b01,x=.ar b b00 b01 37->b≠A:=by
     rintro b b00 b01 rfl rfl;rcases n2.2 with⟨_,W|W⟩|⟨b80,_,_,_,W,_,b81,_⟩
     .cases W
     .cases W
     simp_all
    obtain⟨p,l⟩:∃p:U,p=b48.set A (.cells a19):=⟨_,rfl⟩;have V:=aq.add k6 b41 b53;rw[<-l]at V;have b54:p A=γ (.cells a19):=by rw[l,ξ]
    have b55:aq (λ_=>η) p 37 (flat k9) (.ar A a97 a98 37):=⟨(λ_ _ W=>by cases W),.inr ⟨A,a97,a98,a19,rfl,rfl,b54,b42,b43,b44,b45,b46⟩⟩;have b56:bz p C m k7:=by rw[l];exact b49.set a27
    have b57:=Ν n2.1 b51;have a29:Ext C m Y p:=by rw[l];exact b50.set b57
    have b58:=a29 _ _ a62.1 a62.2 b32;have b02:=a29 _ _ a63.1 a63.2 a09;have b59:=V.1 _ _ b58;have b60:=V.1 _ _ b02;simp -dsimp -implicitDefEqProofs (disch:=first|omega|assumption|(simp only[bd,Nat.reduceAdd];try omega)) only[go_sem,simprocAttr,-List.reduceReplicate,f,μ b59,μ b60,F,g,i,T,a38];refine ak (Fj _ p t (flat L) (flat k9) x _ (β a.kids) (β k8) k (k+1) _ rfl V b40 b55 b39 ε ε ε ε ε) ?_;intro dQ a10 v;have b61:=v.1 _ _ b02;have b62:(flat L).take (k*37)++(flat k9++(flat L).drop ((k+1)*37))=flat (L.take k++(k9++L.drop (k+1))):=by rw[(gx k (j.cells λ_ _=>Ξ)).2,(gx (k+1) (j.cells λ_ _=>Ξ)).1];simp[flat]
    rw[b62]at v;have l9:=(j.take k).append (a15.append (j.drop (k+1)));refine an (bt @f (μ b61) @F @g @i @T) ?_;refine ak (Fl p a10 C m k7 b56 _ _ dQ v r n4 n5 l9 Ι) ?_;intro Z b25 w;rw[<-h]at w;obtain⟨b26,b27,rfl⟩:=w.shape;refine an @f ?_;exact⟨_,ι,gf.base w ((Γ a88).trans a29)⟩
def jJ(a:Nat)(d:Ω)(f:af)(b:aj):Except Int aj×af:=
 if b=aG then dL f a (ec [d])
 else match gO a d (b.size.toNat+1) f b with
  |(.error h,c)=>(.error h,c)
  |(.ok bF,c)=>iW a (β bF+1) c bF
variable{j B b7:ύ}{a7 h5 j1:Own}
def rv.lt(a:rv A a7 h5 j1 j):β j=37/\j.take 37=j:=⟨a.len,a.t37⟩
def a1e(z:U)(d f:Nat)(r:af)(V:bz z d f r)(b:aj)(F G L:Own)(n:β b.sum=32)(M:b.cL)(c:Ω)(P:Own)(a:Nat)(q:1<=a)(s:a<=8)(a08:β c=a):
  AC δ 59 [.ptr d 0,.agg (ag b F G L),.J (ab c) P,.v (.int .i64 (a:Int))] z λh N=>bz N d f (jJ a c r b).2/\Ext d f z N/\hC (jJ a c r b).1 h:=by
 have a09:=(aV (a7:=F) (h5:=G) (j1:=L) n).lt;have a10:=(aV (a7:=.nil) (h5:=.nil) (j1:=.nil) bo).lt;have a11:=cB;have t:=λO Q X Y u=>cT (a:=.nil) (b:=.nil) (c:=.nil) (A:=O) (a7:=Q) (h5:=X) (j1:=Y) bo u;have a13:=t aG .nil .nil .nil bo;generalize l3:ag aG .nil .nil .nil=v at*;obtain⟨Z,o⟩:∃Z,jJ a c r b=Z:=⟨_,rfl⟩;rw[o];unfold jJ at o;have a14:rA (a) [c]=true:=by simp[rA];omega
 have k2:aw isRow [c] [R.J (ab c) P]:=⟨⟨P,rfl⟩,trivial⟩;have k3:ba 1 [R.J (ab c) P]:=by simp[ba,τ]
 refine aM hm NU ?_;refine bg λhX l4=>?_;refine cy λS w _ _=>?_;refine uO λl5 l6 _ _ _ _=>?_;generalize W:((z.set hX _).set S _).set l5 _=C;have k4:z.sub C:=by subst W;exact aK
 have aZ:C hX=γ (.cells (ag b F G L)):=by subst W;exact aK
 have bl:C S=γ (.cells v):=by subst W;exact aK
 clear W;have D:=V.cI w;have a15:=@υ;refine mP (F4 a [c] _ _ C k2 (bL.J k3) σ) ?_;refine bg λk5 e=>?_;have a16:=U.ht e aZ;obtain⟨y,A⟩:∃y,C.set k5 (.cells [.ptr d 0,.v (.int .i64 (a))])=y:=⟨_,rfl⟩;have g:C.sub y:=by rw[<-A];exact ν ι e
 have cw:y k5=γ (.cells [.ptr d 0,.v (.int .i64 (a))]):=by rw[<-A,ξ]
 have l7:=μ cw;have a18:=rd g aZ;have i:=π k4 g;have k6:=V.cI (Ν k4 e);have k7:∀(x)(p)(res)(h),bz p d f x->Ext d f y p->hC res h->∃k E,β k=37/\k.take 37=k/\putAt v 0 k=k/\h=.aJ [.agg k,.v (.int .i64 E)]/\eE p S=γ v/\bz (p.set S (.cells k)) d f x/\Ext d f z (p.set S (.cells k)):=by intro x p res h j k8 l8;obtain⟨O,Q,X,Y,E,B,rfl⟩:=l8.shape;exact⟨_,E,(aV B).len,(aV B).t37,t _ _ _ _ B,rfl,ω (k8 _ _ D.1 D.2 (g _ _ bl)),j.set D,((Γ i).trans k8).set w⟩
 refine mP (nZ b F G L y n λ_=>M) ?_;clear l4 e l6 A t;refine ay (λH=>?_) λH=>?_
 .rw[if_pos H]at o;refine kR λa19 l9=>?_;have j:=ν (b0:=.buf 1 1 1) (ι) l9;refine cl (yN _ d f r (V.mono (π i j)) [c] _ _ a q s k2 (bL.J k3) σ) ?_;rintro h p⟨l,m,T⟩;rw[o]at l T;obtain⟨k,E,n0,n2,n3,rfl,n4,I,tF⟩:=k7 _ p _ h l ((Γ j).trans m) T;refine aa ?_;exact⟨_,ι,I,tF⟩
 rw[if_neg H]at o;refine cl (a1d d f c P a q s (b.size.toNat+1) y r b F G L (V.mono i) n M ε ε) ?_;intro h p K;have k9:=λx n5 u=>yV a c (b.size.toNat+1) r x b n5 u;generalize gO a c (b.size.toNat+1) r b=n9 at K k9 o;obtain⟨res,x⟩:=n9;cases res with
 |error E=>obtain⟨l,m,a00,rfl⟩:=K;subst o;have a27:=ω (m _ _ D.1 D.2 (g _ _ bl));refine aa ?_;exact⟨_,ι,l.set D,((Γ i).trans m).set w,a00,by rw[l3]⟩
 |ok bF=>
  obtain⟨a01,a29,l0,rfl,l1,_⟩:=K;obtain⟨_,a30⟩:=k9 x bF rfl;have l7:=μ (l1.ext _ _ k6.1 k6.2 cw);obtain⟨a02,a03,a04,a05⟩:=l1.vl l0;refine cl (AC.o4 (j:=[_]) a03 (a0T a02 d f x a04 bF a01 .any a q s l0 ε)) ?_;rintro h a06⟨l2,a07,T⟩
  dsimp only at o
  rw[o]at l2 T;obtain⟨k,E,n0,n2,n3,rfl,n4,I,tF⟩:=k7 _ a06 _ h l2 (a05.trans a07) T;refine aa ?_;exact⟨_,ι,I,tF⟩
end Go.Proofs.YtgchlmdfldnhnaaGreat
namespace Go.bw
open Go
variable{s b8:R}{g w h7:U}{j B b7:ύ}{e i t I b3 e5:Nat}
theorem aq.emp(b:aq h7 g e j s)(h:∀a c d,s=.ar a c d e->w a=g a):aq (λ_=>η) w e j s:=by
 refine⟨(λ_ _ b=>by cases b),?_⟩;rcases b.2 with f|⟨a,c,d,k,rfl,o,p,r⟩
 .exact .inl f
 grind
theorem aq.put{a:R}(f:aq w g e (flat j) (.ar t I b3 e))(y:0<e)(d:ba e j)(z:j[i]?=γ s)(k:β a.cells=e):
  ∃b,g t=γ (.cells b)/\i*e+e<=β b/\I=β j/\aq w (g.set t (.cells (putAt b (i*e) a.cells))) e (flat (j.set i a)) (.ar t I b3 e):=by
 obtain⟨C,c⟩:=f;rcases c with⟨_,c|c⟩|⟨V,W,l,b,o,p,D,E,F,m,r,G⟩
 .cases c
 .cases c
 simp only[R.ar.injEq,and_true]at o;obtain⟨rfl,rfl,rfl⟩:=o;have x:=(a7B.1 z).1;have n:=dg d;have L:I=β j:=a9Z y ε;subst L;have q:i*e+e<=β j*e:=by rw[<-abI];exact a7N _ x
 have u:β j*e<=b3*e:=a7N _ r;refine⟨b,D,ε,rfl,ν C p,.inr ⟨t,β j,b3,_,rfl,p,ξ _ _ _,by rw[eY _ _ _ ε];exact E,?_,?_,r,G⟩⟩
 .have h:j.set i a=j.take i++a::j.drop (i+1):=by rw[a8N,if_pos x]
  have P:flat (j.take i++a::j.drop (i+1))=(flat j).take (i*e)++a.cells++(flat j).drop ((i+1)*e):=by rw[(gx i d).2,(gx (i+1) d).1];simp[flat]
  rw[h,P,putAt,k,<-F];have v:(b.take (i*e)++a.cells).length=i*e+e:=by grind
  grind[List.take_append,Λ,Nat.min_eq_left,List.drop_take,Nat.succ_mul]
 .have S:ba e (j.set i a):=λh T=>by
   rcases a9J T with f|rfl
   .exact d h f
   .exact k
  rw[dg S,aah]
end Go.bw
namespace Go.Proofs.YtgchlmdfldnhnaaGreat
open Go Go.bw
structure ix where
 leaf:Bool
 rows:List Ω
 kids:List aj
structure iX(a:U)(x:ix)(d f:R)(b c:ύ):Prop where
 r:aw isRow x.rows b
 k:aw bA x.kids c
 an:bL a 1 d b
 vp:bL a 37 f c
 p1:kp a 1 d (β x.rows) b
 jK:kp a 37 f (β x.kids) (flat c)
 lf:β x.rows<=1000
 iP:β x.kids<=1000
def iX.mono{c d:U}{f:ix}{h k:R}{o p:ύ}(a:iX c f h k o p)(b:c.sub d):iX d f h k o p:=⟨a.r,a.k,a.an.mono b,a.vp.mono b,a.p1.mono b,a.jK.mono b,a.lf,a.iP⟩
variable{s b8:R}{g w h7:U}{j B b7:ύ}
theorem iX.of{s:U}{a:ix}{d:R}(b:aw isRow a.rows j)(c:aw bA a.kids B)(f:aq g s 1 (flat j) b8)(h:aq w s 37 (flat B) d)(o:β a.rows<=1000)(p:β a.kids<=1000):iX s a b8 d j B:=by obtain⟨r,x,k⟩:=f.an ε;obtain⟨y,z,C⟩:=h.an ε;rw[o2 b]at x k;rw[dg (c.cells λ_ _=>Ξ)]at z;have:=b.len;have:=c.len;obtain rfl:r=β a.rows:=ε;obtain rfl:y=β a.kids:=ε;exact⟨b,c,bL.dq f ε rfl (b.cells λ_ _=>ρ),bL.dq h ε rfl (c.cells λ_ _=>Ξ),k,C,o,p⟩
def hD(a:bO):ix:=⟨decide (a.kind=2),a.rows.map Α,a.kids⟩
def lj(b:af)(c:Nat)(a d:ix):Except Int (List aj)×af:=if a.leaf=ζ then oZ b c (a.rows++d.rows)else ko b c (a.kids++d.kids)
theorem a1f(d:U)(p S:Nat)(T:af)(B:bz d p S T)(a b:ix)(V W C e g:R)(X Y Z k2:ύ)(h:iX d a V W X Y)(k:iX d b e g Z k2)(k8:C.cells=[C])(o:Nat)(H:1<=o)(I:o<=8):
  AC δ 255 [ej p o,.agg [.v (.bool a.leaf),V,W],.agg [C,e,g]] d λs k3=>gf d k3 p S (lj T o a b) s:=by
 refine bh hm Tb σ ?_;have c:∀K,(R.agg K).cells=K:=λ_=>rfl;have i:∀a b:R,List.take 2 [a,b]=[a,b]:=λ_ _=>rfl;have j:∀a b,aX ζ 2 [a,b]=.agg [a,b]:=λ_ _=>rfl;have M:∀a b y:R,aX κ 1 [a,b,y]=a:=λ_ _ _=>rfl;have N:∀a b y:R,aX κ 1 ([a,b,y].drop 1)=b:=λ_ _ _=>rfl;have O:∀a b y:R,aX κ 1 ([a,b,y].drop 2)=y:=λ_ _ _=>rfl;refine an @c ?_;refine aR λdB k9=>?_;refine an @c ?_;refine aR λeI l=>?_;have D:dB≠eI:=by rintro rfl;rw[ξ]at l;cases l
 have l0:d eI=none:=by rw[ο _ _ (Θ D)]at l;exact l
 refine an @c ?_;refine aR λhX m=>?_;have t:eI≠hX:=by rintro rfl;rw[ξ]at m;cases m
 have u:dB≠hX:=by rintro rfl;rw[ο _ _ D,ξ]at m;cases m
 have l1:d hX=none:=by simp_all [ο,Θ]
 obtain⟨z,r⟩:∃z:U,z=((d.set dB (.cells [.ptr p 0,.v (.int .i64 (o))])).set eI (.cells [.v (.bool a.leaf),V,W])).set hX (.cells [C,e,g]):=⟨_,rfl⟩;have Q:d.sub z:=by grind[ν,ι]
 have aD:z dB=γ (.cells [.ptr p 0,.v (.int .i64 (o))]):=by rw[r,ο _ _ u,ο _ _ D,ξ]
 have aL:z eI=γ (.cells [.v (.bool a.leaf),V,W]):=by rw[r,ο _ _ t,ξ]
 have aZ:z hX=γ (.cells [C,e,g]):=by rw[r,ξ]
 unfold lj;have l2:=h.lf;have l3:=k.lf;have l4:=h.iP;have l5:=k.iP;cases n:a.leaf with
 |true=>rw[n]at aL r;refine an (cw @c @ο @D @u @t @ξ @M @N @O @n) ?_;rw[<-r];refine eF ι (by intro k4 E;simp only[a7S,a8f,or_false]at E;rcases E with rfl|rfl;(·rw[h.p1.one];rfl);(·rw[k.p1.one];rfl)) λv F G=>?_;have f:=π Q G.sub;have L:=G.sub _ _ aD;simp -dsimp -implicitDefEqProofs (disch:=first|omega|assumption|(simp only[bd,Nat.reduceAdd];try omega)) only[go_sem,simprocAttr,-List.reduceReplicate,c,μ L,j,i];refine ak (a0Y F _ _ v _ _ _ _ (h.p1.mono f) (k.p1.mono f) ε ε) ?_;intro dQ w x;have A:=x.1 _ _ L;have q:=h.r.append k.r;rw[<-o2 q]at x;simp -dsimp -implicitDefEqProofs (disch:=first|omega|assumption|(simp only[bd,Nat.reduceAdd];try omega)) only[go_sem,simprocAttr,-List.reduceReplicate,c,μ A,j,i];refine ak (Fk F w p S T (B.mono f) _ _ dQ x o H I q (by rw[Ρ];omega)) ?_;intro s k5 P;obtain⟨k6,k7,rfl⟩:=P.shape;refine an @c ?_;exact⟨_,ι,gf.base P (Γ f)⟩
 |false=>rw[n]at aL r;refine an (cw @c @ο @D @u @t @ξ @M @N @O @n) ?_;rw[<-r];refine eF ι (by intro k4 E;simp only[a7S,a8f,or_false]at E;rcases E with rfl|rfl;(·rw[h.jK.one];rfl);(·rw[k.jK.one];rfl)) λv F G=>?_;have f:=π Q G.sub;have L:=G.sub _ _ aD;simp -dsimp -implicitDefEqProofs (disch:=first|omega|assumption|(simp only[bd,Nat.reduceAdd];try omega)) only[go_sem,simprocAttr,-List.reduceReplicate,c,μ L,j,i];refine ak (a1a F _ _ v _ _ _ _ (h.jK.mono f) (k.jK.mono f) ε ε) ?_;intro dQ w x;have A:=x.1 _ _ L;have q:=h.k.append k.k;rw[<-pH]at x;simp -dsimp -implicitDefEqProofs (disch:=first|omega|assumption|(simp only[bd,Nat.reduceAdd];try omega)) only[go_sem,simprocAttr,-List.reduceReplicate,c,μ A,j,i];refine ak (Fl F w p S T (B.mono f) _ _ dQ x o H I q (by rw[Ρ];omega)) ?_;intro s k5 P;obtain⟨k6,k7,rfl⟩:=P.shape;refine an @c ?_;exact⟨_,ι,gf.base P (Γ f)⟩
def kq(d:af)(h:Nat)(f:List aj)(a:Nat)(b:ix):Except Int (List aj)×af:=
 if 2<=β b.rows+β b.kids then
  match mW d h b.leaf b.rows b.kids with
  |(.error k,c)=>(.error k,c)
  |(.ok p,c)=>(.ok (f.set a p),c)
 else match f[if a=0 then 1 else a - 1]? with
  |none=>(.error 21,d)
  |some r=>match iV d h r with
   |none=>(.error 21,d)
   |some o=>match lj d h (if a=0 then b else hD o) (if a=0 then hD o else b)with
    |(.error k,c)=>(.error k,c)
    |(.ok x,c)=>(.ok (f.take (a - 1)++(x++f.drop (a - 1+2))),c)
def a1g(h b:U)(c d:Nat)(f:Except Int (List aj)×af)(k:R):Prop:=
 match f.1 with
 |.error o=>bz b c d f.2/\Ext c d h b/\o≠0/\∃a,k=.aJ [a,.v (.int .i64 o)]/\a.cells=[a]
 |.ok bF=>∃p a,aw bA bF p/\k=.aJ [a,.v (.int .i64 0)]/\dA h b c d f.2 37 (flat p) a
theorem aw.set{c:Type}{d:c->R->Prop}:∀ {h:List c}{k:ύ}{o:c}{p:R} (b:Nat),aw d h k->d o p->aw d (h.set b o) (k.set b p)
 |[],[],_,_,_,a,_=>a
 |_:: _,_:: _,_,_,0,a,f=>⟨f,a.2⟩
 |_:: _,_:: _,_,_,b+1,a,f=>⟨a.1,aw.set b a.2 f⟩
variable{e i t I b3 e5:Nat}{H:af}
theorem Fp{f:af}{b c:ix}{d:List aj}(a:lj H e b c=(.ok d,f))(k:β b.rows<=1000/\β c.rows<=1000/\β b.kids<=1000/\β c.kids<=1000):β d<=501:=by
 unfold lj at a;split at a
 .rename_i h;have:=rB a;rw[this];simp only[a7E,a7X,a6.chunks,(o3).1,a6.bV,Ρ];omega
 .rename_i h;have:=rB a;rw[this];simp only[a7E,a7X,a6.chunks,(o3).1,a6.bV,Ρ];omega
def bA.c{a:List aj}(b:aw bA a j):ba 37 j:=b.cells λ_ _=>Ξ
def Ext.no(b:Ext i t g w)(a:e≠i/\e≠t)(c:w e=η):g e=none:=by
 cases d:g e with
 |none=>rfl
 |some f=>have:=b _ _ a.1 a.2 d;rw[c]at this;cases this
theorem a1h(T z p:U)(C D:Nat)(I V:af)(d h:List aj)(f:ύ)(r W:Nat)(E:R)(F:dA T z C D I 37 (flat f) (.ar r (β d) W 37))(c:aw bA d f)(K:gf z p C D (.ok h,V) (.aJ [E,.v (.int .i64 0)]))(b a:Nat)(x:Int)(e:x=(a:Int))(g:b<a)(i:a<=β d)(l4:β d<=1000)(l5:β h<=501):
  AC δ 180 [.ar r (β d) W 37,.v (.int .i64 (b:Int)),.v (.int .i64 x),E] p λM N=>∃j,aw bA (d.take b++(h++d.drop a)) j/\dA T N C D V 37 (flat j) M:=by
 obtain⟨k,E,G,L,⟨l6,P,l,m⟩,O⟩:=K;simp only[R.aJ.injEq,a9X,and_true]at L;subst L;have l7:=c.len;have Q:=G.len;have l8:=dg (bA.c c);have X:(flat k).length=β h*37:=by rw[dg (bA.c G),Q]
 have Y:∃n,z r=γ (.cells n):=by obtain⟨_,Z,_⟩:=F;obtain⟨_,_,_,n,L,_,q,_⟩:=Z.ar (by grind);simp_all
 obtain⟨k2,s,t,u⟩:=F.step (m.trans (Γ P.1)) (l.mono P.1);by_cases v:h=[]
 .subst v;obtain rfl:=O rfl;refine(a0W _ p (flat f) _ (β d) b a x e s ε g i ε).mono λdQ k3 o=>?_;rw[(gx b (bA.c c)).2,(gx a (bA.c c)).1,<-pH]at o;exact⟨_,(c.take b).append (c.drop a),_,o,t,u⟩
 have l9:=a8l.2 v;obtain⟨y,w,A,B,rfl,H,k4,k5,k6,k7,k8,k9⟩:=aq.ar P (by grind);have S:=l.cI H;have l0:=m.no S H;obtain⟨n0,n2⟩:=Y;have n3:r≠y:=by grind
 have l1:=aq.add s k4 (by simp_all);have l2:aq (λ_=>η) (k2.set y (.cells B)) 37 (flat k) (.ar y w A 37):=⟨(λ_ _ q=>by cases q),.inr ⟨y,w,A,B,rfl,rfl,ξ _ _ _,k5,k6,k7,k8,k9⟩⟩;refine(Fj _ _ p (flat f) (flat k) _ _ (β d) (β h) b a x e l1 ε l2 X ε g i ε ε).mono λdQ k3 o=>?_;have l3:(flat f).take (b*37)++(flat k++(flat f).drop (a*37))=flat (f.take b++(k++f.drop a)):=by rw[(gx b (bA.c c)).2,(gx a (bA.c c)).1];simp[flat]
 rw[l3]at o;exact⟨_,(c.take b).append (G.append (c.drop a)),_,o,t.set S,u.set (F.ext.no S l0)⟩
theorem a1i(H I:U)(C V:Nat)(x:af)(l1:bz H C V x)(y:List aj)(K:ύ)(a16:R)(l2:aq H I 37 (flat K) a16)(P:aw bA y K)(b:ix)(D E:R)(a18 a19:ύ)(S:iX I b D E a18 a19)(b44:2<=β y)(a97:β y<=1000)(a:Nat)(b45:a<β y)(d:Nat)(l3:1<=d)(l4:d<=8):
  AC δ 188 [ej C d,a16,.v (.int .i64 (a:Int)),.agg [.v (.bool b.leaf),D,E]] I λl l5=>a1g H l5 C V (kq x d y a b) l:=by
 have b46:=P.len;have a98:=l1.mono l2.1;have b47:=dg (bA.c P);obtain⟨l6,a99,a27,b48,rfl,b49,b50,a29,b00,b01,m,b51⟩:=aq.ar l2 (by grind);obtain rfl:a99=β y:=ε;have b52:=S.lf;have b53:=S.iP;have b54:=(aV (a7:=.nil) (h5:=.nil) (j1:=.nil) bo).len;obtain⟨a30,f⟩:∃a30,kq x d y a b=a30:=⟨_,rfl⟩;rw[f];rw[kq]at f;clear a29 b00 b01;refine aM hm Rz ?_;refine bg λeI a34=>?_;refine cy λa36 a38 _ _=>?_;have M:=ν (b0:=.cells [.v (.bool b.leaf),D,E]) (ν (b0:=.cells [.ptr C 0,.v (.int .i64 (d))]) (ι) a34) a38;obtain⟨z,N⟩:∃z:U,(I.set eI (.cells [.ptr C 0,.v (.int .i64 (d))])).set a36 (.cells [.v (.bool b.leaf),D,E])=z:=⟨_,rfl⟩;rw[N]at M|-;have aL:z eI=γ (.cells [.ptr C 0,.v (.int .i64 (d))]):=by rw[<-N,ο _ _ abV,ξ]
 have cr:z a36=γ (.cells [.v (.bool b.leaf),D,E]):=by rw[<-N,ξ]
 have b02:=μ aL;have b03:=μ cr;clear N a34 a38;have l7:=aq.mono l2 M;have a42:=dA.of l7 l1 Ext.refl;have n:=S.mono M;have l8:=a98.mono M;refine mP (a0N (.v (.bool b.leaf)) D E _ _ S.p1.one S.jK.one rfl S.p1.len S.jK.len ε ε z) ?_;refine ay (λa43=>?_) λa43=>?_
 .rw[if_pos ε]at f;refine cl (F6 z C V x l8 b.leaf b.rows a18 D b.kids a19 E d l3 l4 n.r n.an ε n.k n.vp ε) ?_;rintro l l9⟨a47,b04,O⟩;generalize mW x d b.leaf b.rows b.kids=n0 at*;obtain⟨res,q⟩:=n0
  dsimp only at a47 O
  obtain⟨Q,k,o,p,b05,n2,rfl⟩:=O.shape;have b06:=(aV (a7:=k) (h5:=o) (j1:=p) n2).len;have b55:=(aV (a7:=k) (h5:=o) (j1:=p) n2).t37;have b56:putAt (ag aG .nil .nil .nil) 0 (ag Q k o p)=ag Q k o p:=cT bo n2;have b57:=cB;generalize ag aG .nil .nil .nil=b58 at*;refine aa ?_;refine bg λb59 b07=>?_;obtain⟨b08,b09,a48,a52⟩:=dA.mono (a42.step b04 a47) (ν (b0:=.cells (ag Q k o p)) ι b07);obtain⟨b60,b10,b61,-,n3⟩:=aq.put (a:=.agg (ag Q k o p)) b09 ε (bA.c P) (Τ (show a<β K by omega)) b06;have b62:cU 37 (.ar l6 (β y) a27 37) (.v (.int .i64 (a)))=γ (.ptr l6 (a*37)):=by simp_all [iL]
  have b63:=ω b10;have b11:=a52.trans (Γ n3.1);refine aa ?_;refine⟨_,ι,?_⟩;subst f;cases res with
  |error b64=>obtain⟨n4,r⟩:=O;simp only[R.aJ.injEq,a9X,R.v.injEq,Value.int.injEq,true_and,and_true]at r;obtain⟨_,rfl⟩:=r;exact⟨a48.mono n3.1,b11,n4,_,rfl,rfl⟩
  |ok b65=>obtain⟨b12,b13,b14,b15,b16,r⟩:=O;simp only[R.aJ.injEq,a9X,R.v.injEq,Value.int.injEq,true_and,and_true,R.agg.injEq]at r;obtain⟨r,rfl⟩:=r;exact⟨_,_,aw.set a P ⟨b12,b13,b14,b15,b16,by rw[r]⟩,rfl,⟨b08,n3,a48,a52⟩⟩
 rw[if_neg ε]at f;have b66:max ((a:Int) - 1) 0=((a - 1:Nat)):=ε;obtain⟨W,e⟩:∃W,(if a=0 then 1 else a - 1)=W:=⟨_,rfl⟩;rw[e]at f;refine nT [1,2,4,7,12] (λ_:Unit=>[(13,.v (.int .i64 (W)))]) (λ_ l5=>l5=z) (λh=>?_) (λh=>?_) ?_
 .rw[if_pos (by have:=of_decide_eq_true h;omega)]at e;subst e;exact aK
 .rw[if_neg (by have:=of_decide_eq_false h;omega)]at e;subst e;exact aK
 rintro _ z rfl b17;have b18:W<β y:=by rw[<-e];split<;>omega
 have n5:=Τ b18;rw[n5]at f
 dsimp only at f
 generalize y[W]=F at*;obtain⟨b67,a56,a57,b19,k,o,p,rfl⟩:=P.get n5;obtain⟨b20,b21,n9⟩:=(bL.dq l7 ε rfl (bA.c P)).get W _ a56;have a61:=aV (a7:=k) (h5:=o) (j1:=p) a57;change nY z b20 (ag F k o p)at n9;have a62:=n9.ld z ι ζ 37 ε (by rw[a61.len];omega);rw[show aX ζ 37 (ag F k o p)=.agg (ag F k o p) by rw[aX,if_pos rfl,a61.t37]]at a62;refine cl (yP z C V x l8 F k o p a57 b19 d l3 l4) ?_;rintro l a63⟨a65,r⟩;cases a00:iV x d F with
 |none=>rw[a00]at r f;obtain rfl:=r;subst f;refine aa ?_;refine bg λa01 X=>?_;have a68:=λF=>π l7.1 (π a65 (ν (b0:=F) ι X));exact⟨_,ι,l1.mono (a68 _),Γ (a68 _),Μ,_,rfl,rfl⟩
 |some c=>
 rw[a00]at r f
 dsimp only at f
 obtain⟨Y,g,rfl,b22⟩:=r;obtain⟨b23,b68⟩:=tE a00;obtain⟨b69,b70,b71⟩:=iR b23.ok;clear a62 b21 n9 b02 b03 a43 a56 n5;refine aa ?_;refine bg λa01 X=>?_;obtain⟨s,a02⟩:∃s,a63.set a01 (.cells [.v (.int .u8 (c.kind.toNat)),Y,g])=s:=⟨_,rfl⟩;have a03:a63.sub s:=by rw[<-a02];exact ν ι X
 have hb:s a01=γ (.cells [.v (.int .u8 (c.kind.toNat)),Y,g]):=by rw[<-a02,ξ]
 have a04:=π a65 a03;obtain⟨b72,a69,a71,b24,a05,a73,Z,b25,b26⟩:=b22;have a74:=gB.mono ⟨a73,Z,(bL.dq b24 ε rfl (a73.cells λ_ _=>dR.cells)).mono a05.1,bL.dq a05 ε rfl (bA.c Z),b25,b26⟩ a03;have m:=rd a04 cr;have b27:=μ hb;have b73:=@sO;refine cl (yQ c a69 a71 Y g s a74) ?_;rintro _ k2⟨a81,b74,rfl,b28,a83⟩;clear a02 X;have t:=a83.1;have u:=t _ _ (a04 _ _ cr);have m:=μ u;refine aa ?_;refine bg λw a06=>?_;have b75:=U.ht a06 u;refine cy λA a07 _ _=>?_;have b76:=U.ht a07 u;have b29:=@υ;obtain⟨T,k3⟩:∃T,(k2.set w (.cells [.v (.bool (decide (c.kind=2))),a81,g])).set A (.cells [.v (.bool b.leaf),D,E])=T:=⟨_,rfl⟩;have G:k2.sub T:=by rw[<-k3];exact ν (ν ι a06) a07
 have oP:T w=γ (.cells [.v (.bool (decide (c.kind=2))),a81,g]):=by rw[<-k3,ο _ _ abV,ξ]
 have oQ:T A=γ (.cells [.v (.bool b.leaf),D,E]):=by rw[<-k3,ξ]
 have a84:=π a04 t;have a86:=n.mono a84;have a88:=aq.mono a05 (π a03 t);have k4:(hD c).rows.length<=1000/\(hD c).kids.length<=1000:=by simp[hD];omega
 refine aa ?_;clear b29 m;refine nT [1,4,12,16,17] (λ_:Unit=>[]) (λ_ L=>k2.sub L/\∃k5 k6 B k7 k8 a08 a09 a10 a11,L w=γ (.cells [.v (.bool (if a=0 then b else hD c).leaf),k5,k6])/\L A=γ (.cells [B,k7,k8])/\B.cells=[B]/\iX L (if a=0 then b else hD c) k5 k6 a08 a09/\iX L (if a=0 then hD c else b) k7 k8 a10 a11) (λh=>?_) (λh=>?_) ?_
 .have h:=of_decide_eq_true h;have h:a=0:=ε;simp only[if_pos h];have m:=rd G u;have b27:=rd (π t G) hb;refine cl (yQ c a69 a71 Y g T (a74.mono (π t G))) ?_;rintro _ l9⟨b77,b78,rfl,b30,i⟩;have m:=rd i.1 (G _ _ u);have b79:=ω (i.1 _ _ oP);have b80:∀a89,eE (l9.set w a89) A=γ [.v (.bool b.leaf),D,E]:=λa89=>ω (by rw[ο _ _ abV];exact i.1 _ _ oQ);have k9:∀F a90,k2.sub ((l9.set w F).set A a90):=λF a90 b81 v a13=>by
   rw[ο _ _ (U.ht a07 a13),ο _ _ (U.ht a06 a13)];exact i.1 _ _ (G _ _ a13)
  refine aa ?_;refine⟨(),_,_,_,_,_,_,_,_,_,rfl,rfl,rfl,a86.mono (k9 _ _),iX.of b30 Z (aq.emp i ?_) (aq.mono a88 (k9 _ _)) k4.1 k4.2⟩;rintro b31 b82 b83 rfl;have a92:T b31=none:=by
   rcases i.2 with⟨_,j|j⟩|⟨b84,_,_,_,j,b85,_⟩
   .cases j
   .cases j
   simp_all
  rw[ο _ _ (U.ht a92 oQ).symm,ο _ _ (U.ht a92 oP).symm]
 .have h:=of_decide_eq_false h;have h:¬a=0:=ε;simp only[if_neg h];refine aa ?_;subst k3;exact⟨(),_,_,_,_,_,_,_,_,_,rfl,rfl,rfl,iX.of b28 Z (a83.mono G) (a88.mono G) k4.1 k4.2,a86.mono G⟩
 rintro _ L⟨k9,k5,k6,B,k7,k8,a08,a09,a10,a11,oP,oQ,b32,b33,b34⟩b17;have b35:(if a=0 then b else hD c).rows.length<=1000/\(if a=0 then hD c else b).rows.length<=1000/\(if a=0 then b else hD c).kids.length<=1000/\(if a=0 then hD c else b).kids.length<=1000:=by split<;>omega
 have b36:=λq l0 j=>Fp (H:=x) (f:=q) (e:=d) (d:=l0) j b35;generalize (if a=0 then b else hD c)=a94 at*;generalize (if a=0 then hD c else b)=a95 at*;have a14:=π a84 k9;have a29:=rd a14 aL;have b86:=μ oP;have b87:=μ oQ;refine cl (a1f L C V x (l8.mono a14) a94 a95 k5 k6 B k7 k8 a08 a09 a10 a11 b33 b34 b32 d l3 l4) ?_;intro l b37 a15;generalize lj x d a94 a95=n0 at*;obtain⟨res,q⟩:=n0;have a96:=dA.mono a42 a14;cases res with
 |error b05=>obtain⟨b38,b39,n4,rfl⟩:=a15;subst f;refine aa ?_;exact⟨_,ι,b38,a96.ext.trans b39,n4,_,rfl,rfl⟩
 |ok l0=>obtain⟨_,a3,_,rfl,_⟩:=id a15;have b40:=b36 q l0 rfl;have b41:((a - 1:Nat))+2=((a - 1+2:Nat):Int):=rfl;refine cl (a1h H L b37 C V x q y l0 K l6 a27 a3 a96 P a15 (a - 1) (a - 1+2) _ b41 ε ε a97 b40) ?_;rintro l b88⟨b89,b42,b43⟩;subst f;refine aa ?_;exact⟨_,ι,_,_,b42,rfl,b43⟩
end Go.Proofs.YtgchlmdfldnhnaaGreat
set_option maxHeartbeats 1000000
namespace Go.bw
open Go
variable{s b8:R}{g w h7:U}{j B b7:ύ}{e i t I b3 e5:Nat}
theorem aq.q0(r:aq w g e j s):∃d:U,aq d g e j s/\d.sub g/\w.sub d/\∀a,(∀b f h,s=.ar b f h e->b≠a)->d a=g a:=by
 obtain⟨o,k⟩:=r;rcases k with k|⟨b,f,h,x,rfl,y,z,C⟩
 .exact⟨g,⟨ι,.inl k⟩,ι,o,λ_ _=>rfl⟩
 .have p:(g.del b).sub g:=λa D c=>by
   grind[U.iI,U.eX]
  refine⟨g.del b,⟨p,.inr ⟨b,f,h,x,rfl,U.iI _ _,z,C⟩⟩,p,λa D c=>?_,λa c=>U.eX _ (Θ (c _ _ _ rfl))⟩;have E:a≠b:=by rintro rfl;rw[y]at c;cases c
  rw[U.eX _ E];exact o _ _ c
theorem aq.own(c:aq g w i j (.ar e t I i)):g e=η/\∃b,w e=γ (.cells b):=by
 rcases c.2 with⟨_,a|a⟩|⟨d,f,h,b,k,o,p,_⟩
 .cases a
 .cases a
 simp_all
end Go.bw
namespace Go.Proofs.YtgchlmdfldnhnaaGreat
open Go Go.bw
def iy(d:Nat)(c:Ω):Nat->af->aj->Except Int ix×af
  |0,b,_=>(.error 21,b)
  |o+1,b,p=>match iV b d p with
    |none=>(.error 21,b)
    |some a=>
      if a.kind=2 then
        (if lh (a.rows.map Α) c=ζ then(.ok ⟨ζ,(a.rows.map Α).take (fp (a.rows.map Α) c)++(a.rows.map Α).drop (fp (a.rows.map Α) c+1),a.kids⟩,b)
         else(.error 9,b))
      else match a.kids[hU c a]? with
        |none=>(.error 21,b)
        |some r=>match iy d c o b r with
          |(.error f,h)=>(.error f,h)
          |(.ok x,h)=>match kq h d a.kids (hU c a) x with
            |(.error f,k)=>(.error f,k)
            |(.ok bF,k)=>(.ok ⟨κ,a.rows.map Α,bF⟩,k)
def a1j(r c:U)(d f:Nat)(h:Except Int ix×af)(k:R):Prop:=
 bz c d f h.2/\Ext d f r c/\match h.1 with
 |.error o=>o≠0/\∃x a b,k=.aJ [.agg [x,a,b],.v (.int .i64 o)]
 |.ok p=>∃a b y z,k=.aJ [.agg [.v (.bool p.leaf),a,b],.v (.int .i64 0)]/\iX c p a b y z
variable{e i t I b3 e5:Nat}{H:af}
theorem a1k{f:af}{c d:List aj}{b:ix}(a:kq H e c i b=(.ok d,f))(k:β c<=4)(o:β b.rows<=1000/\β b.kids<=1000):β d<=1000:=by
 unfold kq at a;split at a;grind
 .rename_i p;split at a
  .simp_all
  .split at a
   .simp_all
   .rename_i r h;obtain⟨x,y,z⟩:=iR (tE h).1.ok;grind[Prod.mk.inj,Except.ok.inj,Fp,hD,Ζ,List.length_take,List.length_drop]
theorem a1l(C P:Nat)(F:Ω)(a48:Own)(D:Nat)(b00:1<=D)(b01:D<=8):∀(l:Nat)(W:U)(m:af)(e:aj)(l8 l9 n0:Own),bz W C P m->β e.sum=32->e.cL->0<l->e.size<l->
  AC δ 115 [ej C D,.agg (ag e l8 l9 n0),.J (ab F) a48] W λn2 b29=>a1j W b29 C P (iy D F l m e) n2:=by
 intro l
 induction l with
 |zero=>intros;omega
 |succ l ih=>
 intro W m e l8 l9 n0 G b02 b30 b65 b66;have n3:=(aV (a7:=l8) (h5:=l9) (j1:=n0) b02).lt;have b31:=@υ;have b67:=@sO;obtain⟨b03,b⟩:∃b03,iy D F (l+1) m e=b03:=⟨_,rfl⟩;rw[b];rw[iy]at b;refine aM hm Pv ?_;refine bg λdB b04=>?_;refine cy λeI b32 _ _=>?_;refine gz λeH O _ _ _ _=>?_;generalize w:((W.set dB _).set eI _).set eH _=n4;have n5:W.sub n4:=by subst w;exact aK
 have aD:n4 dB=γ (.cells [.ptr C 0,.v (.int .i64 (D))]):=by subst w;exact aK
 have bt:n4 eH=γ (.cells [.v (.bool κ),.J [] .nil,.J [] .nil]):=by subst w;exact aK
 clear w;have b05:=G.cI b04;have y:=G.cI O;refine cl (yP n4 C P m (G.mono n5) e l8 l9 n0 b02 b30 D b00 b01) ?_;rintro n2 a52⟨a56,n9⟩;have k5:=a56 _ _ bt;have b06:=π n5 a56;clear b04 b32;cases a57:iV m D e with
 |none=>rw[a57]at n9 b;obtain rfl:=n9;subst b;refine aa ?_;refine bg λa00 k6=>?_;have b07:=λb33=>π b06 (ν (b0:=b33) ι k6);have b34:=U.ht k6 k5;have k7:∀h,eE (a52.set a00 h) eH=γ [.v (.bool κ),.J [] .nil,.J [] .nil]:=λh=>ω (by rw[ο _ _ b34];exact k5);refine aa ?_;exact⟨_,ι,(G.mono (b07 _)).set y,(Γ (b07 _)).set O,Μ,_,_,_,rfl⟩
 |some o=>
  rw[a57]at n9 b
  dsimp only at b
  obtain⟨a01,r,rfl,b68,b08,a02,k8,n,b09,Q,b35,b36⟩:=n9;obtain⟨b10,b37⟩:=tE a57;obtain⟨b69,b70,b71⟩:=iR b10.ok;refine aa ?_;refine bg λa00 k6=>?_;obtain⟨k9,a61⟩:∃k9,a52.set a00 (.cells [.v (.int .u8 (o.kind.toNat)),a01,r])=k9:=⟨_,rfl⟩;have A:a52.sub k9:=by rw[<-a61];exact ν ι k6
  have bl:k9 a00=γ (.cells [.v (.int .u8 (o.kind.toNat)),a01,r]):=by rw[<-a61,ξ]
  have b11:=gB.mono ⟨b09,Q,(bL.dq k8 ε rfl (b09.cells λ_ _=>dR.cells)).mono n.1,bL.dq n ε rfl (bA.c Q),b35,b36⟩ A;have a62:=μ bl;refine cl (yQ o b08 a02 a01 r k9 b11) ?_;rintro _ b12⟨L,a63,rfl,q,B⟩;clear a61 k6 a62;refine aa ?_;refine bg λE l0=>?_;obtain⟨z,a03⟩:∃z,b12.set E (.cells [.v (.bool (decide (o.kind=2))),L,r])=z:=⟨_,rfl⟩;rw[b31,a03];have g:b12.sub z:=by rw[<-a03];exact ν ι l0
  have cw:z E=γ (.cells [.v (.bool (decide (o.kind=2))),L,r]):=by rw[<-a03,ξ]
  clear a03;have H:=B.1;have a04:=π b06 A;have X:=π a04 (π H g);have a05:=π A (π H g);have a65:=Ν (π a04 H) l0;have S:=G.cI a65;have a06:=a05 _ _ k5;have a68:=a05 _ _ (a56 _ _ aD);have a69:=U.ht l0 (H _ _ (A _ _ k5));have l1:=μ cw;have k7:=ω a06;have a07:∀a c d,r=.ar a c d 37->a≠C/\a≠P/\a≠eH/\a≠E/\a≠dB:=by
   rintro a c d rfl;obtain⟨f,a71,x⟩:=n.own;have a73:=k8.1 _ _ bt;have a74:=k8.1 _ _ aD;have I:=(G.mono (π n5 k8.1)).cI f;refine⟨I.1,I.2,?_,?_,?_⟩
   .rintro rfl;rw[a73]at f;cases f
   .rintro rfl;rw[H _ _ (A _ _ x)]at l0;cases l0
   .rintro rfl;rw[a74]at f;cases f
  have a08:∀a c d,L=.ar a c d 1->a≠C/\a≠P/\a≠eH/\a≠E/\∀K Y Z,r=.ar K Y Z 37->K≠a:=by
   rintro a c d rfl;obtain⟨f,a71,x⟩:=B.own;have I:=(G.mono a04).cI f;refine⟨I.1,I.2,?_,?_,?_⟩
   .rintro rfl;rw[A _ _ k5]at f;cases f
   grind
   .rintro K Y Z rfl rfl;obtain⟨_,b72,p⟩:=n.own;rw[A _ _ p]at f;cases f
  refine ay (λl2=>?_) λl2=>?_
  .rw[if_pos l2]at b;have b73:(o.rows.map Α).length=β o.rows:=a7Q _;generalize b38:o.rows.map Α=l3 at*;refine cl (F8 l3 a63 L F a48 z q ((bL.dq B ε rfl (q.cells λ_ _=>ρ)).mono g) ε) ?_;rintro _ z⟨rfl,b74,rfl⟩;have b39:lh l3 F=ζ->fp l3 F<β l3:=λk=>by
    grind[lh,Η]
   generalize fp l3 F=T at*;refine aa ?_;refine ay (λa09=>?_) λa09=>?_
   .rw[if_neg (by simp[a09])]at b;subst b;exact⟨_,ι,(G.mono X).set y,(Γ X).set O,Μ,_,_,_,rfl⟩
   .rw[if_pos a09]at b;have b75:=b39 a09;obtain⟨b40,b13,b76,_,b41⟩:=aq.q0 (aq.mono B g);rw[o2 q]at b13;have b77:=q.len;refine cl (a0U b40 z a63 L b13 T ε ε) ?_;intro a5 s M;have b14:=(q.take T).append (q.drop (T+1));rw[<-o2 b14]at M;have a10:∀i h,z i=γ h->(∀a c d,L=.ar a c d 1->a≠i)->s i=γ h:=λi h k b42=>M.1 _ _ (by rw[b41 i b42];exact k);have a11:=a10 _ _ cw λa c d k=>(a08 a c d k).2.2.2.1;have a13:=a10 _ _ a06 λa c d k=>(a08 a c d k).2.2.1;have t:W.sub s:=λi h l4=>a10 i h (X _ _ l4) (by
     rintro a c d rfl rfl;have:=B.own.1;rw[a04 _ _ l4]at this;cases this)
    have b78:=eG M;obtain⟨V,j⟩:∃V,(s.set E (.cells [.v (.bool ζ),a5,r])).set eH (.cells [.v (.bool ζ),a5,r])=V:=⟨_,rfl⟩;have k7:∀h,eE (s.set E h) eH=γ [.v (.bool κ),.J [] .nil,.J [] .nil]:=λh=>ω (by rw[ο _ _ a69];exact a13);have b15:=ω a11;have b16:V.read eH=γ [.v (.bool ζ),a5,r]:=μ (by rw[<-j,ξ]);clear b38 l1;refine aa ?_;refine⟨V,ι,?_⟩;subst b;refine⟨by rw[<-j];exact((G.mono t).set S).set y,by rw[<-j];exact((Γ t).set a65).set O,a5,r,_,a02,rfl,iX.of b14 Q (aq.emp M ?_) (aq.emp n ?_) Ι Ι⟩
    .rintro a c d rfl;have l5:=M.own.1;have f:a≠E:=by grind
     have x:a≠eH:=by grind
     rw[<-j,ο _ _ x,ο _ _ f]
    .rintro a c d rfl;obtain⟨_,a71,p⟩:=n.own;have u:=a07 _ _ _ rfl;rw[<-j,ο _ _ u.2.2.1,ο _ _ u.2.2.2.1,p];exact a10 _ _ (a05 _ _ p) λK Y Z k=>Θ ((a08 K Y Z k).2.2.2.2 _ _ _ rfl)
  .rw[if_neg l2]at b;rw[decide_eq_false l2]at cw l1;have b79:=q.len;have a62:=rd (π H g) bl;refine cl (F7 o b08 a02 a01 r F a48 z (b11.mono (π H g))) ?_;rintro _ z⟨rfl,rfl⟩;obtain⟨-,a73,a74,I⟩:=b10.inner (b37.resolve_left l2);have a14:hU F o<β o.kids:=by grind[yU,List.length_map]
   generalize hU F o=T at*;have a81:=Τ a14;have b17:o.kids[T]'a14∈o.kids:=a8b _;rw[a81]at b;simp only at b;generalize o.kids[T]'a14=k2 at a81 b17 b;obtain⟨b80,b43,b18,b44,f,x,p,rfl⟩:=Q.get a81;obtain⟨_,_,_,b81,b82⟩:=I k2 b17;have b19:=aq.mono n a05;obtain⟨b45,b46,b83,_,l6⟩:=b19.q0;have b20:W.sub b45:=λi h l4=>by
    rw[l6 i (by
     rintro a c d rfl rfl;have:=n.own.1;rw[k8.1 _ _ (n5 _ _ l4)]at this;cases this)]
    exact X _ _ l4
   have b21:=(l6 _ λa c d k=>(a07 a c d k).2.2.2.1).trans cw;have b22:=(l6 _ λa c d k=>(a07 a c d k).2.2.1).trans a06;have b84:=(l6 _ λa c d k=>(a07 a c d k).2.2.2.2).trans a68;have b47:=G.mono X;have a83:=μ a68;obtain⟨b48,b49,a84⟩:=(bL.dq b19 ε rfl (bA.c Q)).get T _ b43;have b23:=aV (a7:=f) (h5:=x) (j1:=p) b18;change nY z b48 (ag k2 f x p)at a84;have b24:=a84.ld z ι ζ 37 ε (by rw[b23.len];omega);rw[show aX ζ 37 (ag k2 f x p)=.agg (ag k2 f x p) by rw[aX,if_pos rfl,b23.t37]]at b24;refine aa ?_;refine cl (ih z m k2 f x p b47 b18 b44 ε ε) ?_;intro n2 s k3;generalize iy D F l m k2=a86 at k3 b;obtain⟨res,a88⟩:=a86;obtain⟨a15,t,k3⟩:=k3
   dsimp only at a15 k3 b
   have a13:=t _ _ y.1 y.2 a06;have a11:=t _ _ S.1 S.2 cw;have b25:=t _ _ b05.1 b05.2 a68;clear a83 a62 l1 b24 b49 a84;cases res with
   |error b50=>obtain⟨a89,a,a16,a18,rfl⟩:=k3;subst b;refine aa ?_;refine bg λa19 v=>?_;have b51:=U.ht v a13;have k7:∀h,eE (s.set a19 h) eH=γ [.v (.bool κ),.J [] .nil,.J [] .nil]:=λh=>ω (by rw[ο _ _ b51];exact a13);have b26:=a15.cI v;have w:=(Γ X).trans t;refine aa ?_;exact⟨_,ι,(a15.set b26).set y,(w.set (w.no b26 v)).set O,a89,_,_,_,rfl⟩
   |ok a27=>
    obtain⟨a16,a18,b52,b53,rfl,a90⟩:=k3
    dsimp only at b
    refine aa ?_;refine bg λa19 v=>?_;obtain⟨V,j⟩:∃V,s.set a19 (.cells [.v (.bool a27.leaf),a16,a18])=V:=⟨_,rfl⟩;have a29:s.sub V:=by rw[<-j];exact ν ι v
    have b54:V.read a19=γ [.v (.bool a27.leaf),a16,a18]:=μ (by rw[<-j,ξ]);have l1:=rd a29 a11;have a83:=rd a29 b25;have b85:=U.ht v a11;have b86:=U.ht v b25;have b55:=dA.mono ((dA.of b46 (G.mono b20) Ext.refl).step t a15) a29;obtain⟨b27,M,b56,a30⟩:=b55;refine cl (a1i b27 V C P a88 b56 o.kids a02 r M Q a27 a16 a18 b52 b53 (a90.mono a29) a73 ε T a14 D b00 b01) ?_;intro n2 N n3;clear j v b54 l1 a83;have a34:=λl7 a92 k=>a1k (H:=a88) (f:=l7) (e:=D) (i:=T) (d:=a92) k a74 ⟨a90.lf,a90.iP⟩;generalize kq a88 D o.kids T a27=a86 at b n3 a34;obtain⟨res,l7⟩:=a86;have a36:∀(a38),bz N C P l7->Ext C P b27 N->N eH=γ (.cells [.v (.bool κ),.J [] .nil,.J [] .nil])/\N E=γ (.cells [.v (.bool κ),L,r])/\
      ∃k4:U,(N.set E (.cells [.v (.bool κ),L,a38])).set eH (.cells [.v (.bool κ),L,a38])=k4/\k4.read eH=γ [.v (.bool κ),L,a38]/\bz k4 C P l7/\Ext C P W k4:=by
     intro a38 f x;have p:=a30.trans x;exact⟨p _ _ y.1 y.2 b22,p _ _ S.1 S.2 b21,_,rfl,μ (ξ _ _ _),(f.set S).set y,((((Γ b20).trans p).set a65).set O)⟩
    cases res with
    |error b50=>
     obtain⟨b28,b57,a89,a42,rfl,b58⟩:=n3
     dsimp only at b b28
     subst b;obtain⟨a94,a95,k4,a96,b16,a97,a98⟩:=a36 a42 b28 b57;have k7:∀h,eE (N.set E h) eH=γ [.v (.bool κ),.J [] .nil,.J [] .nil]:=λh=>ω (by rw[ο _ _ a69];exact a94);have b15:=ω a95;clear a34 a36;refine aa ?_;exact⟨_,ι,a97,a98,a89,_,_,_,rfl⟩
    |ok a92=>
     obtain⟨b59,a42,b60,rfl,a43⟩:=n3;have b61:=a34 l7 a92 rfl
     dsimp only at b a43
     subst b;obtain⟨a94,a95,k4,a96,b16,a97,a98⟩:=a36 a42 a43.hg a43.ext;have k7:∀h,eE (N.set E h) eH=γ [.v (.bool κ),.J [] .nil,.J [] .nil]:=λh=>ω (by rw[ο _ _ a69];exact a94);have b15:=ω a95;obtain⟨b87,a47,b88,a99⟩:=a43;have b58:=eG a47;clear a34 a36;refine aa ?_;have b62:=a30.trans (a99.trans (Γ a47.1));refine⟨_,ι,a97,a98,L,a42,a63,b59,rfl,iX.of q b60 (aq.emp (aq.mono B g) ?_) (aq.emp a47 ?_) Ι b61⟩
     .rintro a c d rfl;have u:=a08 _ _ _ rfl;obtain⟨_,a71,p⟩:=B.own;rw[<-a96,ο _ _ u.2.2.1,ο _ _ u.2.2.2.1,g _ _ p];exact b62 _ _ u.1 u.2.1 (by rw[l6 _ (λK Y Z k=>u.2.2.2.2 K Y Z k)];exact g _ _ p)
     .rintro a c d rfl;have l5:=a47.own.1;have b63:=a99 _ _ S.1 S.2 (a30 _ _ S.1 S.2 b21);have b64:=a99 _ _ y.1 y.2 (a30 _ _ y.1 y.2 b22);have f:a≠E:=by rintro rfl;rw[b63]at l5;cases l5
      have x:a≠eH:=by rintro rfl;rw[b64]at l5;cases l5
      rw[<-a96,ο _ _ x,ο _ _ f]
def lY(d:Nat)(h:Ω)(f:af)(c:aj):Except Int aj×af:=
 if c=aG then(.error 9,f)
 else match iy d h (c.size.toNat+1) f c with
  |(.error k,b)=>(.error k,b)
  |(.ok a,b)=>
   if a.leaf=ζ/\β a.rows=0 then(.ok aG,b)
   else if a.leaf=κ/\β a.kids=1 then(.ok (a.kids.headD aG),b)
   else mW b d a.leaf a.rows a.kids
def a1m(T:U)(r V:Nat)(G:af)(H:bz T r V G)(c:aj)(W e g:Own)(I:β c.sum=32)(k6:c.cL)(k:Ω)(n:Own)(b:Nat)(k7:1<=b)(k8:b<=8)(a18:β k=b):
  AC δ 61 [.ptr r 0,.agg (ag c W e g),.J (ab k) n,.v (.int .i64 (b:Int))] T λK k9=>bz k9 r V (lY b k G c).2/\Ext r V T k9/\hC (lY b k G c).1 K:=by
 have a19:=(aV (a7:=W) (h5:=e) (j1:=g) I).lt;have a27:=(aV (a7:=.nil) (h5:=.nil) (j1:=.nil) bo).lt;have a29:=cB;have M:=λN d f h i=>cT (a:=.nil) (b:=.nil) (c:=.nil) (A:=N) (a7:=d) (h5:=f) (j1:=h) bo i;have a30:=M aG .nil .nil .nil bo;generalize O:ag aG .nil .nil .nil=l0 at*;obtain⟨l1,a⟩:∃l1,lY b k G c=l1:=⟨_,rfl⟩;rw[a];unfold lY at a;have a34:rA (b) [k]=true:=by simp[rA];omega
 refine aM hm NY ?_;refine bg λhX n9=>?_;refine cy λQ L _ _=>?_;refine uO λa00 a36 _ _ _ _=>?_;generalize x:((T.set hX _).set Q _).set a00 _=D;have q:T.sub D:=by subst x;exact aK
 have aZ:D hX=γ (.cells (ag c W e g)):=by subst x;exact aK
 have bl:D Q=γ (.cells l0):=by subst x;exact aK
 clear x;have l2:=H.mono q;have p:=H.cI L;have l3:=μ aZ;have X:=ω bl;have a01:=@υ;refine mP (F4 b [k] [.J (ab k) n] _ D ⟨⟨n,rfl⟩,trivial⟩ (bL.J (by simp[ba,τ])) σ) ?_;refine mP (nZ c W e g D I λ_=>k6) ?_;refine ay (λY=>?_) λY=>?_
 .rw[if_pos Y]at a;subst a;exact⟨_,ι,l2.set p,(Γ q).set L,Μ,by rw[O]⟩
 rw[if_neg Y]at a;refine bg λl4 s=>?_;have a38:=U.ht s aZ;obtain⟨j,y⟩:∃j,D.set l4 (.cells [.ptr r 0,.v (.int .i64 (b))])=j:=⟨_,rfl⟩;have t:D.sub j:=by rw[<-y];exact ν ι s
 have cw:j l4=γ (.cells [.ptr r 0,.v (.int .i64 (b))]):=by rw[<-y,ξ]
 have l5:=μ cw;have l3:=rd t aZ;refine cl (a1l r V k n b k7 k8 (c.size.toNat+1) j G c W e g (l2.mono t) I k6 ε ε) ?_;intro K Z z;generalize iy b k (c.size.toNat+1) G c=a02 at z a;obtain⟨res,a03⟩:=a02;obtain⟨u,k2,z⟩:=z
 dsimp only at u z a
 have v:=k2 _ _ p.1 p.2 (t _ _ bl);have l6:=H.cI (Ν q s);have a04:=k2 _ _ l6.1 l6.2 cw;have x:=(Γ (π q t)).trans k2;clear y l5 l3;cases res with
 |error a05=>obtain⟨a06,a42,w,l,rfl⟩:=z;subst a;refine aa ?_;refine bg λA P=>?_;have l7:=u.cI P;have a07:=U.ht P v;have X:∀l8,eE (Z.set A l8) Q=γ l0:=λl8=>ω (by rw[ο _ _ a07];exact v);refine aa ?_;exact⟨_,ι,(u.set l7).set p,(x.set (x.no l7 P)).set L,a06,by rw[O]⟩
 |ok S=>
  obtain⟨w,l,a08,a09,rfl,o⟩:=z
  dsimp only at a
  refine aa ?_;refine bg λA P=>?_;obtain⟨E,B⟩:∃E,Z.set A (.cells [.v (.bool S.leaf),w,l])=E:=⟨_,rfl⟩;have C:Z.sub E:=by rw[<-B];exact ν ι P
  have a43:E.read A=γ [.v (.bool S.leaf),w,l]:=μ (by rw[<-B,ξ]);have l5:=rd C a04;have X:=ω (C _ _ v);have k3:=u.mono C;have k4:=x.trans (Γ C);have a47:=o.p1.len;have a48:=o.jK.len;have a52:=o.lf;have a56:=o.iP;rw[a01,B];clear P s n9 B;refine ay (λF=>?_) λF=>?_
  all_goals refine ay (λc2=>?_) λc2=>?_
  .rw[if_pos ⟨F,ε⟩]at a;subst a;exact⟨_,ι,k3.set p,k4.set L,bo,q9,.nil,.nil,.nil,by rw[O]⟩
  rotate_left
  .obtain⟨m,l9⟩:=a9C.1 (show β S.kids=1 by omega);rw[if_neg (by simp[F]),if_pos ⟨F,ε⟩,l9]at a;subst a;obtain⟨a57,a10,k5,a11,d,f,h,rfl⟩:=o.k.get (show S.kids[0]?=γ m by rw[l9];rfl);obtain⟨n0,n2,n3⟩:=(o.vp.mono C).get 0 _ a10;have y:=aV (a7:=d) (h5:=f) (j1:=h) k5;change nY E n0 (ag m d f h)at n3;have n2:cU 37 l (.v (.int .i64 0))=γ n0:=n2;have a13:=n3.ld E ι ζ 37 ε (by rw[y.len];omega);rw[show aX ζ 37 (ag m d f h)=.agg (ag m d f h) by rw[aX,if_pos rfl,y.t37]]at a13;have a14:=M m d f h k5;have y:=y.lt;refine aa ?_;exact⟨_,ι,k3.set p,k4.set L,k5,a11,d,f,h,rfl⟩
  all_goals
   rw[if_neg (by rintro⟨i,a15⟩;first|omega|simp[F]at i),if_neg (by rintro⟨i,a15⟩;first|omega|simp[F]at i),F]at a;subst a;refine cl (F6 E r V a03 k3 _ S.rows a08 w S.kids a09 l b k7 k8 o.r (o.an.mono C) ε o.k (o.vp.mono C) ε) ?_;rintro K a61⟨a16,n4,z⟩;have X:=ω (n4 _ _ p.1 p.2 (C _ _ v));obtain⟨N,d,f,h,a05,n5,rfl⟩:=z.shape;have a62:=(aV (a7:=d) (h5:=f) (j1:=h) n5).lt;have a14:=M N d f h n5;refine aa ?_;exact⟨_,ι,a16.set p,(k4.trans n4).set L⟩
end Go.Proofs.YtgchlmdfldnhnaaGreat
namespace Go.bw
open Go
end Go.bw
namespace Go.Proofs.YtgchlmdfldnhnaaGreat
open Go Go.bw
inductive rD where
 |row (r:Ω)
 |hE (k:aj)
def a1n(f:rD)(b:R):Prop:=
 match f with
 |.row c=>c≠[]/\∃d,d≠.nil/\b=.agg (.J (ab c) d::ag aG .nil .nil .nil)
 |.hE a=>β a.sum=32/\a.cL/\∃h k o,b=.agg (.J [] .nil::ag a h k o)
abbrev a1o(a b:Nat)(c:ύ)(d:Own):ύ:=[.ptr a 0,.v (.int .i64 (b:Int)),.J c d]
def Fq(b:U)(c d f:Nat)(h:List rD):Prop:=∃a k,b c=γ (.cells (a1o d f a k))/\aw a1n h a
structure Fs where
 A:List rD
 B:List rD
 gone:List Ω
 yW:List Ω
 kr:Int
abbrev a1p(a b:Nat)(c d:ύ)(f h:Own)(k:Int):ύ:=[.ptr a 0,.ptr b 0,.J c f,.J d h,.v (.int .i64 k)]
structure a7q(f h:U)(W k o x y d:Nat)(w:Fs):Prop where
 sub:f.sub h
 yX:f W=η
 na:f k=η
 nb:f o=η
 a7r:k≠o
 a:Fq h k x d w.A
 b:Fq h o y d w.B
 w:∃pY fs o5 gP,h W=γ (.cells (a1p k o pY o5 fs gP w.kr))/\aw isRow w.gone pY/\aw isRow w.yW o5/\bk f h 1 pY fs/\bk f h 1 o5 gP/\∀p c r z,fs=.buf p c->gP=.buf r z->p≠r
end Go.Proofs.YtgchlmdfldnhnaaGreat
namespace Go.bw
open Go
end Go.bw
namespace Go.Proofs.YtgchlmdfldnhnaaGreat
open Go Go.bw
variable{A j6:aj}{e i t I b3 e5:Nat}{c0:bO}{H:af}
def o6(a:di H e A=γ c0):qd e A c0:=by
 unfold di at a;split at a
 .cases a
 .split at a
  .cases a
  .split at a
   .rename_i b;obtain rfl:=Δ a;exact vo b
   .cases a
end Go.Proofs.YtgchlmdfldnhnaaGreat
namespace Go.bw
open Go
end Go.bw
namespace Go.Proofs.YtgchlmdfldnhnaaGreat
open Go Go.bw
def wt:rD->Nat
 |.row _=>1
 |.hE a=>if 1<=a.size/\a.size<=1048576 then 3*a.size.toNat - 1 else 1
def lk(a:List rD):Nat:=(a.map wt).sum
structure Bd(w a:Fs):Prop where
 wt:lk a.A+lk a.B<lk w.A+lk w.B
 rows:β a.gone+β a.yW+(lk a.A+lk a.B)<=β w.gone+β w.yW+(lk w.A+lk w.B)
 kr:w.kr<=a.kr/\a.kr+2*(lk a.A+lk a.B:Nat)<=w.kr+2*(lk w.A+lk w.B:Nat)
end Go.Proofs.YtgchlmdfldnhnaaGreat
namespace Go.bw
open Go
theorem a1q(a:Nat)(c:a<18446744073709551616):a^^^9223372036854775808=(a+9223372036854775808)%18446744073709551616:=by
 have f:(9223372036854775808)=2^63:=Μ;have d:(18446744073709551616)=2^64:=Μ;rw[d]at c;rw[f,d];apply aa1;intro b;rw[aaP,abF,Nat.testBit_mod_two_pow,aaO];by_cases h1:b<63
 .rw[ab0 h1];grind
 .by_cases h:b=63;grind
  .have k:¬b<64:=ε;have o:a.testBit b=false:=a9d (a8F c (a9a ε ε));grind
end Go.bw
namespace Go.Proofs.YtgchlmdfldnhnaaGreat
open Go Go.bw
theorem Ft(a:Int):(cx a:Int)=(a+9223372036854775808)%18446744073709551616:=by grind[ς,BitVec.toNat_ofInt,cx,BitVec.toNat_xor,a1q]
def a1r(a:Int):IntKind.u64.wrap (IntKind.u64.wrap a+9223372036854775808)=(cx a:Int):=by rw[Ft,lQ,lQ];omega
variable{N j2:Int}
theorem Fu(a: -9223372036854775808<=N)(b:N<9223372036854775808):(cx N:Int)=N+9223372036854775808:=by rw[Ft];omega
variable{K:Type}
theorem Fv{a b:List K}{d:K}(f:β a=β b)(h:∀c<β a,a.getD c d=b.getD c d):a=b:=
 abc f λc k o=>by grind
theorem qe(a c:Ω)(k o:Own)(f:U)(C:β a<=1000000000000):
  AC δ 10 [.J (ab a) k,.J (ab c) o] f λp r=>r=f/\p=.v (.bool (decide (a=c))):=by
 have D:=bn (n:=a);have E:=bn (n:=c);have F:=@cP a;have G:=@cP c;refine aM hm Mr ?_;refine ay (λx=>?_) λx=>?_
 .exact aN (by grind)
 refine fO [0,1] (λb:Nat=>[(5,.v (.int .i64 b))]) (λb=>b<=β a/\∀d<b,a.getD d 0=c.getD d 0) (λb=>β a - b) 0 ⟨ε,λd y=>by omega⟩ aK ?_;rintro b⟨L,h⟩P;refine aa ?_;refine ay (λz=>?_) λz=>?_;rotate_left
 .exact aN (by simp[Fv ε (λd y=>h d ε)])
 refine ay (λc2=>?_) λc2=>?_
 .exact aN (by grind)
 .exact⟨b+1,⟨ε,upto h c2⟩,rfl,ε⟩
variable{j B b7:ύ}{e i t I b3 e5:Nat}
theorem aw.at{b:K->R->Prop}{a:List K}(d:K)(f:aw b a j)(h:e<β a):∃c,j[e]?=γ c/\b (a.getD e d) c:=f.get (by simp_all)
theorem Fw(b d:List Ω)(h k:ύ)(y z:Own)(o:U)(p:aw isRow b h)(r:aw isRow d k)(L:β b<=1000000000000)(C:∀f∈b,β f<=1000000000000):
  AC δ 17 [.J h y,.J k z] o λf D=>D=o/\f=.v (.bool (decide (b=d))):=by
 have P:=p.len;have S:=r.len;refine aM hm MG ?_;refine ay (λE=>?_) λE=>?_
 .exact aN (by grind)
 refine fO [0,1] (λa:Nat=>[(5,.v (.int .i64 a))]) (λa=>a<=β b/\∀c<a,b.getD c []=d.getD c []) (λa=>β b - a) 0 ⟨ε,λc F=>by omega⟩ aK ?_;rintro a⟨T,x⟩V;refine aa ?_;refine ay (λG=>?_) λG=>?_;rotate_left
 .exact aN (by simp[Fv ε (λc F=>x c ε)])
 obtain⟨_,W,_,rfl⟩:=p.at [] (e:=a) ε;obtain⟨_,e,_,rfl⟩:=r.at [] (e:=a) ε;refine mP (qe _ _ _ _ _ (C (b.getD a []) (by grind))) ?_;refine ay (λc2=>?_) λc2=>?_
 .exact aN (by grind)
 .exact⟨a+1,⟨ε,upto x c2⟩,rfl,ε⟩
def iz(a:Bool):UInt8:=if a=ζ then 1 else 0
def tG(a:Ω):ϊ:=(a6.ct (a.map cx) 64).map iz
theorem o7(a:Ω)(b:Nat):(a6.ct (a.map cx) b).length=β a*b:=by rw[a6.EL,a7Q]
theorem a1s(c:Ω)(L:Own)(k:U)(n:β c<=1000):
  AC δ 290 [.J (ab c) L] k λP h=>∃z,bk k h 1 ((tG c).map av) z/\P=.J ((tG c).map av) z:=by
 have q:=bn (n:=c);have C:=@cP c;have S:(tG c).length=β c*64:=by rw[tG,a7Q,o7]
 refine aM hm TX ?_;refine ck [0] (λa:Nat×ϊ×Own=>[(3,.J (a.2.1.map av) a.2.2),(4,.v (.int .i64 ((a.1) - 1)))]) (λa h=>a.1<=64/\a.2.1++(a6.ct (c.map cx) a.1).map iz=tG c/\bk k h 1 (a.2.1.map av) a.2.2) (λa=>a.1) (64,[],.nil) ⟨⟨Μ,rfl,bk.nil ι⟩,aK⟩ ?_;rintro⟨r,D,T⟩ s ⟨x,o,f⟩ V
 dsimp only at x o f|-
 refine aa ?_;refine ay (λE=>?_) λE=>?_
 .obtain⟨b,rfl⟩:∃b,r=b+1:=⟨r - 1,ε⟩;have W:=congrArg β o;rw[Ρ,S]at W;rw[a6.ct,a8r,<-a7P]at o;have e:((b+1:Nat)) - 1=(b:Int):=ε;have t:IntKind.u64.wrap (b)=(b):=wrap_u64 ε ε;rw[e]at E|-;refine ck [0,4] (λa:Nat×ϊ×Own=>[(3,.J (a.2.1.map av) a.2.2),(5,.v (.int .i64 (a.1)))]) (λa h=>a.1<=β c/\D++((c.take a.1).map λg=>iz ((cx g).testBit b))=a.2.1/\bk k h 1 (a.2.1.map av) a.2.2) (λa=>β c - a.1) (0,D,T) ⟨⟨σ,σ,f⟩,aK⟩ ?_;clear f;rintro⟨p,F,i⟩ u ⟨j,y,f⟩ V
  dsimp only at j y f|-
  have v:β F<=65000:=by grind
  refine aa ?_;refine ay (λl=>?_) λl=>?_
  .have w:=fX (a:=c) (b:=0) (e:=p) ε;have A:=C (b:=p) ε;clear C;generalize c.getD p 0=d at*;have B:bj .shr (.int .u64 (cx d)) (.int .u64 (b))=γ (.int .u64 ((cx d>>>b))):=by rw[sW _ _ _ ε ε];simp
   have H:bj .rem (.int .u64 ((cx d>>>b))) (.int .u64 2)=γ (.int .u64 (((cx d>>>b)%2:Nat))):=by simp only[bj,gI,ka,a8x,if_false,if_true];rfl
   have I:IntKind.u8.wrap (((cx d>>>b)%2:Nat))=((iz ((cx d).testBit b)).toNat):=by
    rw[wrap_u8 ε ε];have:(cx d).testBit b=decide ((cx d>>>b)%2=1):=by simp
    rw[this,iz];rcases Nat.mod_two_eq_zero_or_one (cx d>>>b)with G|G<;>simp[G]
   have K:=a1r d;refine Z3 f λM m N x _=>?_;exact⟨(p+1,_,m),⟨by simp only;omega,by grind,x⟩,⟨rfl,rfl⟩,by simp only;omega⟩
  .rw[a7x ε]at y;refine⟨(b,F,i),⟨by simp only;omega,by simp only[<-y,<-o,a6.gb,a9v];rfl,f⟩,⟨rfl,rfl⟩,σ⟩
 .obtain rfl:r=0:=ε;grind[a6.ct,ι]
def a1t(b:Nat)(c:List Bool)(a:Nat)(d:a<b):a6.iT (b - a) (c.drop (8*a))=φ (a6.val ((c.drop (8*a)).take 8))::a6.iT (b -(a+1)) (c.drop (8*(a+1))):=by rw[show b - a=(b -(a+1))+1 by omega,a6.iT,a8p,show 8*(a+1)=8*a+8 by omega]
theorem yY:∀(b:List Bool)(a:Bool),a6.val (b++[a])=2*a6.val b+(if a=ζ then 1 else 0)
 |[],a=>by simp[a6.val]
 |c::b,a=>by
  simp only[a8K,a6.val,Ρ,a7I,a7E,yY b a,abJ];split<;>omega
theorem a1u(b:List Bool)(f:Nat)(l:β b=8*f)(C:Own)(F:U)(O:f<=100000):
  AC δ 289 [.J ((b.map iz).map av) C] F λm y=>∃V,bk F y 1 ((a6.iT f b).map av) V/\m=.J ((a6.iT f b).map av) V:=by
 refine bh hm TV σ ?_;have W:((b.map iz).map av).length=8*f:=by simp[l]
 refine bU ?_;refine cZ (λd y=>∃(a:Nat)(r:ϊ)(z:Own),a<=f/\r++a6.iT (f - a) (b.drop (8*a))=a6.iT f b/\β r=a/\bk F y 1 (r.map av) z/\d 0=.J ((b.map iz).map av) C/\d 3=.J (r.map av) z/\d 4=.v (.int .i64 ((8*a:Nat))))
  (λd _=>match d 4 with|.v (.int _ G)=>8*f - G.toNat|_=>0) ⟨0,[],.nil,ε,rfl,rfl,bk.nil ι,?_⟩ ?_
 .exact nQ
 rintro d n⟨a,r,z,Q,L,X,e,o,p,k⟩;by_cases g:((8*a:Nat))+7<((8*f:Nat):Int)
 .rw[a1t f b a ε]at L;refine an (aZ @o @p @k @W @g) ?_;refine cZ (λd y=>∃c:Nat,c<=8/\y=n/\d 0=.J ((b.map iz).map av) C/\d 3=.J (r.map av) z/\d 4=.v (.int .i64 ((8*a:Nat)))/\d 5=.v (.int .u8 (a6.val ((b.drop (8*a)).take c)))/\d 6=.v (.int .i64 c))
   (λd _=>match d 6 with|.v (.int _ G)=>8 - G.toNat|_=>0) ⟨0,ε,rfl,?_⟩ ?_
  .refine an (aD @o @p @k) ?_;rfl
  have q:=k;clear o p k;rintro Y s⟨c,Z,rfl,o,p,k,D,E⟩;by_cases i:(c:Int)<8
  .have P:b[8*a+c]?=γ b[8*a+c]:=Τ ε;have j:(b.drop (8*a)).take (c+1)=(b.drop (8*a)).take c++[b[8*a+c]]:=by rw[a8E,aae,P];rfl
   generalize b[8*a+c]'ε=h at P j;have S:=a6.o1 ((b.drop (8*a)).take (c+1));have T:a6.val ((b.drop (8*a)).take (c+1))<256:=a8F S (by
    have:((b.drop (8*a)).take (c+1)).length<=8:=by rw[a7z];omega
    exact a9a ε this)
   rw[j,yY]at T;have t:cU 1 (.J ((b.map iz).map av) C) (.v (.int .i64 (((8*a:Nat))+(c))))=γ (.c4 [.v (.int .u8 ((iz h).toNat))]):=by rw[show((8*a:Nat))+(c)=((8*a+c:Nat):Int) by omega,ir ε];rw[a8a,a7Z,a7Z,P];rfl
   have u:cO κ 1 s (.c4 [.v (.int .u8 ((iz h).toNat))])=γ (.v (.int .u8 ((iz h).toNat))):=rfl;have k2:((iz h).toNat:Int)=if h=ζ then 1 else 0:=by cases h<;>rfl
   generalize k3:a6.val ((b.drop (8*a)).take c)=x at*;have k4:(if h=ζ then 1 else 0)<=1:=by split<;>omega
   have v:IntKind.u8.wrap (2*(x))=((2*x:Nat)):=by rw[wrap_u8 ε ε];omega
   have w:IntKind.u8.wrap (((2*x:Nat))+((iz h).toNat))=((2*x+(if h=ζ then 1 else 0):Nat)):=by grind[wrap_u8]
   have A:bj .mul (.int .u8 2) (.int .u8 (x))=γ (.int .u8 ((2*x:Nat))):=by rw[<-v];rfl
   have B:bj .add (.int .u8 ((2*x:Nat))) (.int .u8 ((iz h).toNat))=γ (.int .u8 ((2*x+(if h=ζ then 1 else 0):Nat))):=by rw[<-w];rfl
   refine an (cw @o @p @k @D @E @i @t @u @A @B) ?_;grind[yY]
  .obtain rfl:c=8:=ε;refine an (bt @o @p @k @D @E @i) ?_;refine eF ι (by simp[ba,τ]) λk5 k6 H=>?_;refine an (aZ @o @p @k @D @E) ?_;refine ef (e.mono H.sub) (by intro k7 I;obtain⟨k8,_,rfl⟩:=a7M.1 I;rfl) (by simp[ba,τ]) (by grind) (by grind) λk9 l0 K=>?_;have S:=a6.o1 ((b.drop (8*a)).take 8);have T:a6.val ((b.drop (8*a)).take 8)<256:=a8F S (by
    grind)
   have M:R.v (.int .u8 (a6.val ((b.drop (8*a)).take 8)))=av (φ (a6.val ((b.drop (8*a)).take 8))):=by show _=R.v (.int .u8 ((φ (a6.val ((b.drop (8*a)).take 8))).toNat));rw[a9j,a9c T]
   have N:r.map av++[R.v (.int .u8 (a6.val ((b.drop (8*a)).take 8)))]=(r++[φ (a6.val ((b.drop (8*a)).take 8))]).map av:=by rw[M,a8r];rfl
   rw[N]at K|-;refine an (bt @o @p @k @D @E @q) ?_;grind
 .obtain rfl:a=f:=ε;rw[a9U,a6.iT,a8u]at L;subst L;refine an (aZ @o @p @k @W @g) ?_;exact⟨_,ι,z,e,rfl⟩
def codeF(a:Ω):ϊ:=a6.iT (8*β a) (a6.ct (a.map cx) 64)
def vq(a:Ω):(codeF a).length=8*β a:=a6.ER _ _
def Fx(a:Ω)(c:Own)(b:U)(d:β a<=1000):
  AC δ 262 [.J (ab a) c] b λf h=>b.sub h/\∃k,f=.J ((codeF a).map av) k:=by
 refine bh hm Tf σ ?_;refine bU ?_;refine ak (a1s a c b d) ?_;rintro _ o⟨p,r,rfl⟩;refine bU ?_;refine ak (a1u (a6.ct (a.map cx) 64) (8*β a) (by rw[o7];omega) p o ε) ?_;rintro _ z⟨x,y,rfl⟩;refine bU ?_;exact⟨_,ι,π r.sub y.sub,x,rfl⟩
def ll(a b:Ω):Bool:=if β a=β b then Op.bytesLess (codeF a) (codeF b)else decide (β a<β b)
def a1v(a b:ϊ):ju .lss (bm a) (bm b)=γ (.v (.bool (Op.bytesLess a b))):=by show(bj .lss (.string ⟨a.toArray⟩) (.string ⟨b.toArray⟩)).map R.v= _;simp only[bj,qI,toList_mk,a8z]
theorem a1w(a b:Ω)(d f:Own)(h:U):
  AC δ 261 [.J ((codeF a).map av) d,.J ((codeF b).map av) f] h λx y=>y=h/\x=.v (.bool (ll a b)):=by
 refine bh hm Td σ ?_;have k:((codeF a).map av).length=8*β a:=by rw[a7Q,vq]
 have o:((codeF b).map av).length=8*β b:=by rw[a7Q,vq]
 have p:nP (.J ((codeF a).map av) d)=γ (bm (codeF a)):=tc;have r:nP (.J ((codeF b).map av) f)=γ (bm (codeF b)):=tc;unfold ll;by_cases z:β a=β b
 .have c:((8*β a:Nat))=((8*β b:Nat):Int):=ε;refine an (bt @k @o @c @p @r @a1v) ?_;exact⟨_,ι,rfl,by rw[if_pos z]⟩
 .have c:¬((8*β a:Nat))=((8*β b:Nat):Int):=ε;refine an (aZ @k @o @c @p @r) ?_;refine⟨_,ι,rfl,?_⟩;simp_all
theorem Fy(a b:Ω)(d f:Own)(c:U)(k:β a<=1000)(o:β b<=1000):
  AC δ 201 [.J (ab a) d,.J (ab b) f] c λp r=>c.sub r/\p=.v (.bool (ll a b)):=by
 refine bh hm RF σ ?_;refine bU ?_;refine ak (Fx a d c k) ?_;rintro _ x⟨C,y,rfl⟩;refine bU ?_;refine ak (Fx b f x o) ?_;rintro _ h⟨D,z,rfl⟩;refine bU ?_;refine ak (a1w a b y z h) ?_;rintro _ h⟨rfl,rfl⟩;refine bU ?_;grind
theorem Fz:∀ {a b:ϊ},β a=β b->Op.bytesLess a b=a6.tB a b
 |[],[],_=>rfl
 |f::a,h::b,c=>by
  have d:β a=β b:=by simpa using c
  simp only[Op.bytesLess,a6.tB,Fz d];grind
theorem FA(d f:Ω):∀(b:List (Int×Int))(a:(Int×Int)×Nat),(b.map λc=>(cx c.1,cx c.2)).foldl a6.pick ((cx a.1.1,cx a.1.2),a.2)=((cx (b.foldl hd a).1.1,cx (b.foldl hd a).1.2),(b.foldl hd a).2)
 |[],a=>rfl
 |c::b,a=>by
  simp only[a7O,a8j];rw[<-FA d f b];grind[a6.pick,hd]
structure bJ(d:Nat)(p:Ω):Prop where
 len:β p=d
 iY:bs p
def FB(a b:Ω):(a.map cx).zip (b.map cx)=(a.zip b).map λc=>(cx c.1,cx c.2):=by rw[List.zip_map];rfl
theorem a1x{b:(Int×Int)×Nat}:∀(a:List (Int×Int)),(a.foldl hd b).1=b.1\/(a.foldl hd b).1∈a:=by
 intro a
 induction a generalizing b with
 |nil=>simp
 |cons d a ih=>
  rw[a8j];rcases ih (b:=hd b d)with c|c
  .rw[c];unfold hd;split
   .simp
   .simp
  .simp_all
variable{n b5:Ω}
theorem rE(y:1<=e)(z:e<=8)(f:bJ e n)(h:bJ e b5):bE n b5=a6.lexB (a6.ct (n.map cx) 64) (a6.ct (b5.map cx) 64):=by
 unfold bE;have C:=f.len;have D:=h.len;rw[if_pos ⟨ε,ε,ε⟩];have E:n.zip b5≠[]:=by intro c;have:=congrArg β c;simp_all
 obtain⟨a,d,b⟩:∃a d,n.zip b5=a::d:=by
  cases F:n.zip b5 with
  |nil=>trivial
  |cons a d=>simp
 have x:(n.zip b5).headD (0,0)=a:=by rw[b];rfl
 rw[x];have k:=a6.EP 64 (n.map cx) (b5.map cx) Ι (λa b=>by
  obtain⟨G,L⟩:=a;have hm:=List.of_mem_zip b;obtain⟨o,_,rfl⟩:=a7M.1 hm.1;obtain⟨p,_,rfl⟩:=a7M.1 hm.2;exact aag (oX _) (oX _)) (cx a.1,cx a.2) (by rw[FB,b];simp)
 rw[FB,FA n b5 (n.zip b5) (a,0)]at k;rw[<-Bool.coe_iff_coe,decide_eq_true_eq];rw[<-k];simp only;have r:((n.zip b5).foldl hd (a,0)).1∈n.zip b5:=by grind[a1x]
 generalize ((n.zip b5).foldl hd (a,0)).1=c at r;obtain⟨o,p⟩:=c;have hm:=List.of_mem_zip r;have P:=f.iY o hm.1;have S:=h.iY p hm.2;grind[Fu]
theorem FC(c:1<=e)(d:e<=8)(a:bJ e n)(b:bJ e b5):ll n b5=bE n b5:=by have f:=a.len;have h:=b.len;rw[rE c d a b];unfold ll;rw[if_pos ε,Fz (by rw[vq,vq];omega)];grind[codeF,a6.ES,o7]
def FD:∀(c:Ω),∀b∈c.zip c,b.1=b.2
 |[],b,a=>by cases a
 |d::c,b,a=>by
  rw[List.zip_cons_cons]at a;rcases a7S.1 a with rfl|a
  .rfl
  .exact FD c b a
theorem tH(a:Ω):bE a a=false:=by
 unfold bE;split
 .have:∀(b:List (Int×Int))(c),(∀d∈b,d.1=d.2)->c.1.1=c.1.2->(b.foldl hd c).1.1=(b.foldl hd c).1.2:=by
   intro b
   induction b with
   |nil=>intro c _ f;exact f
   |cons d b ih=>grind[hd]
  have h:=FD a;have k:((a.zip a).headD (0,0)).1=((a.zip a).headD (0,0)).2:=by
   cases f:a.zip a with
   |nil=>rfl
   |cons d b=>simp_all
  grind
 .rfl
theorem gQ(d:1<=e)(f:e<=8):a6.Ord bE (bJ e) where
 jH:=tH
 trans z C G b a o h1 h:=by rw[rE d f b a]at h1;rw[rE d f a o]at h;rw[rE d f b o];exact a6.a0G (by rw[o7,o7,b.len,a.len]) (by rw[o7,o7,a.len,o.len]) h1 h
 total z C b a h1 h:=by
  rw[rE d f b a]at h1;rw[rE d f a b]at h;have:=a6.a0H (by rw[o7,o7,b.len,a.len]) h1 h;have E:=a6.a0E (by simp[b.len,a.len]) 64 this (λp r=>by obtain⟨k,_,rfl⟩:=a7M.1 r;exact oX k) (λp r=>by obtain⟨k,_,rfl⟩:=a7M.1 r;exact oX k);refine ab3 λx=>?_;have c:=congrArg (λF=>F[x]?) E;simp only[a7Z]at c;cases D:z[x]? with
  |none=>grind
  |some p=>rw[D]at c;cases y:C[x]? with
   |none=>rw[y]at c;cases c
   |some k=>rw[y]at c;simp only[a8z,a7G]at c;have L:=b.iY p (a7C D);have P:=a.iY k (a7C y);grind[Fu]
variable{Q:List Ω}
def iZ(a:aw isRow Q j):ba 1 j:=a.cells λ_ _=>ρ
theorem FE{a:Ω->Ω->Bool}(d:∀b<e,a (Q.getD b []) n=ζ)(c:e<=β Q)(f:e<β Q->a (Q.getD e []) n=κ):a6.eb a Q n=Q.take e++[n]++Q.drop e:=by
 rw[a7P];change _=Q.take e++n::Q.drop e
 induction Q generalizing e with
 |nil=>simp at c;subst c;rfl
 |cons h Q ih=>
  cases e with
  |zero=>grind[a6.eb,List.takeWhile_cons,List.dropWhile_cons]
  |succ e=>have o:a h n=true:=d 0 ε;have:=ih (λb p=>d (b+1) ε) (by simpa using c) (λk=>f (by simpa using k));simp_all [a6.eb]
theorem a1y(b:List Ω)(G:ύ)(V k:Own)(h:Ω)(x:U)(f:aw isRow b G)(t:β b<=1000)(W:∀y∈b,β y<=1000)(e:β h<=1000):
  AC δ 127 [.J G V,.J (ab h) k] x λy o=>x.sub o/\∃L z,y=.J L z/\aw isRow (a6.eb ll b h) L:=by
 have u:=f.len;have v:=iZ f;refine aM hm PQ ?_;refine ck [0,1] (λa:Nat×ύ×Own=>[(5,.J a.2.1 a.2.2),(6,.v (.int .i64 (a.1)))]) (λa o=>a.1<=β b/\(∀P<a.1,ll (b.getD P []) h=ζ)/\aw isRow (b.take a.1) a.2.1/\bk x o 1 a.2.1 a.2.2) (λa=>β b - a.1) (0,[],.nil) ⟨⟨σ,λP w=>by omega,trivial,bk.nil ι⟩,aK⟩ ?_;rintro⟨d,A,on⟩ g ⟨C,p,c,r⟩ B
 dsimp only at C p c r|-
 have i:=c.len;rw[a7z]at i;refine aa ?_;refine ay (λj=>?_) λj=>?_
 .obtain⟨_,H,S,rfl⟩:=f.at [] (e:=d) ε;have l:=fX (a:=b) (b:=[]) (e:=d) ε;refine cl (Fy (b.getD d []) h S k g (W _ (by grind)) e) ?_;rintro _ I⟨T,rfl⟩;refine aa ?_;refine ay (λc2=>?_) λc2=>?_
  .refine hv (r.mono T) (iZ c) λ_ z o m _=>?_;exact⟨(d+1,_,z),⟨by simp only;omega,upto p c2,by simp only[l];exact c.snoc ⟨S,rfl⟩,m⟩,⟨rfl,rfl⟩,by simp only;omega⟩
  .rw[FE p C λ_=>c2];refine hv (r.mono T) (iZ c) λ_ n q D _=>?_;refine kS D (DU (iZ c) rfl) (iZ (f.drop d)) λE s F _=>?_;exact⟨F.sub,_,E,rfl,(c.snoc ⟨k,rfl⟩).append (f.drop d)⟩
 .rw[FE p C λ_=>by omega];refine hv r (iZ c) λ_ n q D _=>?_;refine kS D (DU (iZ c) rfl) (iZ (f.drop d)) λE s F _=>?_;exact⟨F.sub,_,E,rfl,(c.snoc ⟨k,rfl⟩).append (f.drop d)⟩
def hF(a:Nat):ϋ:=(ψ (a6.bV a)).map λb=>a/a6.bV a+if b<a%a6.bV a then 1 else 0
def ja(a:ϋ):ύ:=a.map λ(b:Nat)=>R.v (.int .i64 (b:Int))
def yZ{a:Nat}:a6.bV a<=a:=by unfold a6.bV;omega
variable{j7:ϋ}
def vr:(ja j7).length=β j7:=by simp[ja]
def FF:ba 1 (ja j7):=λb a=>by obtain⟨_,_,rfl⟩:=a7M.1 a;rfl
def vs{a:Nat}:(hF a).length=a6.bV a:=by simp[hF]
def z1{a b:Nat}(c:b<a6.bV a):(hF a).getD b 0=a/a6.bV a+if b<a%a6.bV a then 1 else 0:=by simp[hF,c]
def FG(a:Nat)(g:a<=1000)(k:U):
  AC δ 203 [.v (.int .i64 (a:Int))] k λF d=>k.sub d/\∃G,F=.J (ja (hF a)) G:=by
 have L:(a:Int).tdiv 4=((a/4:Nat)):=rfl;have r:a6.bV a=if 4*(a/4)<a then a/4+1 else a/4:=by unfold a6.bV;split<;>omega
 refine aM hm RJ ?_;refine nT [0] (λ_:Unit=>[(3,.v (.int .i64 (a6.bV a)))]) (λ_ d=>d=k) (λf=>?_) (λf=>?_) ?_
 .have f:=of_decide_eq_true f;rw[if_pos ε]at r;have b:((a/4:Nat))+1=(a6.bV a:Int):=ε;exact aK
 .have f:=of_decide_eq_false f;rw[if_neg ε]at r;have b:((a/4:Nat))=(a6.bV a:Int):=ε;exact aK
 rintro _ k rfl P;have i:ja []=[]:=rfl;clear r L;have j:=@yZ a;have S:=@vs a;have D:=@z1 a;refine aa ?_;refine ck [0,3] (λc:Nat×Own=>[(4,.J (ja ((hF a).take c.1)) c.2),(5,.v (.int .i64 (c.1)))]) (λc d=>c.1<=a6.bV a/\bk k d 1 (ja ((hF a).take c.1)) c.2) (λc=>a6.bV a - c.1) (0,.nil) ⟨⟨σ,bk.nil ι⟩,aK⟩ ?_;rintro⟨h,T⟩ l ⟨V,o⟩ P
 dsimp only at V o|-
 have m:=abj a (a6.bV a);have n:(a:Int).tdiv (a6.bV a:Int)=((a/a6.bV a:Nat)):=rfl;have q:(a:Int).tmod (a6.bV a:Int)=((a%a6.bV a:Nat)):=rfl;refine aa ?_;refine ay (λf=>?_) λf=>?_
 .have E:=D (b:=h) ε;have x:=fX (a:=hF a) (b:=0) (e:=h) ε;rw[E]at x;have y:∀p:Nat,(if h<a%a6.bV a then 1 else 0)=p->ja ((hF a).take h)++[R.v (.int .i64 ((a/a6.bV a+p:Nat)))]=ja ((hF a).take (h+1)):=λp b=>by
   rw[x,b,ja,ja,a8r];rfl
  have W:=y 0;have e:=y 1;clear D E x y S;generalize a/a6.bV a=p at*;generalize a%a6.bV a=s at*;generalize hF a=t at*;refine ay (λc2=>?_) λc2=>?_
  .have b:=e (if_pos ε);refine hv o FF (λ_ z d C _=>?_) (L:=by rw[vr,a7z];omega);exact⟨(h+1,z),⟨by simp only;omega,b▸C⟩,⟨by simp only[<-b];rfl,rfl⟩,by simp only;omega⟩
  .have b:=W (if_neg ε);refine hv o FF (λ_ z d C _=>?_) (L:=by rw[vr,a7z];omega);exact⟨(h+1,z),⟨by simp only;omega,b▸C⟩,⟨by simp only[<-b];rfl,rfl⟩,by simp only;omega⟩
 .rw[a7x ε]at o|-;exact⟨o.sub,T,rfl⟩
def bD(c:U):(d:Nat)->a6.T d->R->Prop
 |0,a,f=>∃b o h k,f=.ptr b 0/\c b=γ (.cells [.J o h,.J [] k])/\aw isRow (a6.rows a) o
 |d+1,a,f=>∃b p h k,f=.ptr b 0/\c b=γ (.cells [.J [] k,.J p h])/\aw (bD c d) (a6.kids a) p/\a6.kids a≠[]/\(a6.kids a).length<=1000
def bD.fW{p r:U}(d:jx p r):∀ {a:Nat}{b:a6.T a}{c:R},bD p a b c->bD r a b c
 |0,b,c,⟨f,x,h,dK,h1,k,o⟩=>⟨f,x,h,dK,h1,d _ _ k,o⟩
 |a+1,b,c,⟨f,y,h,dK,h1,k,o,z⟩=>⟨f,y,h,dK,h1,d _ _ k,o.mono λ_ _=>bD.fW d,z⟩
variable{g w h7:U}
def bD.mono(b:g.sub w){t:a6.T e}{a:R}(c:bD g e t a):bD w e t a:=c.fW (U.tg b)
theorem bD.cells{d:U}{a:Nat}{f:a6.T a}{b:R}(c:bD d a f b):β b.cells=1:=by
 cases a with
 |zero=>obtain⟨h,_,_,_,rfl,_⟩:=c;rfl
 |succ a=>obtain⟨h,_,_,_,rfl,_⟩:=c;rfl
theorem bD.ptr{c:U}{a:Nat}{h:a6.T a}{d:R}(f:bD c a h d):∃b k o,d=.ptr b 0/\c b=γ (.cells [k,o]):=by
 cases a with
 |zero=>obtain⟨b,_,_,_,rfl,p,_⟩:=f;simp_all
 |succ a=>obtain⟨b,_,_,_,rfl,p,_⟩:=f;simp_all
theorem FH{h:Type}:∀(a:Nat)(b:List h),a<=β b->∀d∈a6.fm a b,d≠[]
 |0,b,_,d,c=>by cases c
 |a+1,b,o,d,c=>by
  have p:=aay (β b) (a+1);have hm:=a9w (β b) (abK a);have r:1<=β b/(a+1):=(Nat.le_div_iff_mul_le (abK a)).2 ε;rw[a6.fm]at c;generalize (β b)/(a+1)=f at*;generalize (β b)%(a+1)=x at*;have y:(a+1)*f=a*f+f:=by rw[a8D];omega
  have z:a<=a*f:=abh _ ε;rcases a7S.1 c with rfl|c
  .intro k;have:=congrArg β k;grind
  .exact FH a _ (by rw[a7F];split<;>omega) d c
def a1z(a:List K):a6.chunks a=(ψ (a6.bV (β a))).map λb=>(a.drop (b*(β a/a6.bV (β a))+min b (β a%a6.bV (β a)))).take (β a/a6.bV (β a)+if b<β a%a6.bV (β a) then 1 else 0):=a6.EW _ _
def fF(a b:Nat):Nat:=b*(a/a6.bV a)+min b (a%a6.bV a)
def z6(a:i<a6.bV e):fF e (i+1)=fF e i+(hF e).getD i 0:=by rw[z1 a];unfold fF;rw[a8D];split<;>omega
def FI(a:i<=a6.bV e):fF e i<=e:=by have:=aay e (a6.bV e);have:=a7N (e/a6.bV e) a;unfold fF;omega
def vt{a:List K}:(a6.chunks a).length=a6.bV (β a):=o3.1
def FJ{a:List K}(b:e<a6.bV (β a)):(a6.chunks a).take (e+1)=(a6.chunks a).take e++[(a.take (fF (β a) (e+1))).drop (fF (β a) e)]:=by rw[a8E,a1z,a7Z,a9Q b,z6 b,z1 b,a8T];simp[fF]
def FK(a:i<a6.bV e):(ja (hF e))[i]?=γ (.v (.int .i64 ((hF e).getD i 0:Nat))):=by simp[ja,vs,a]
def bD.c{a:List (a6.T e)}(b:aw (bD g e) a j):ba 1 j:=b.cells λ_ _=>bD.cells
def FL(a:List Ω)(k:ύ)(F:Own)(o:U)(p:aw isRow a k)(G:β a<=1000):
  AC δ 125 [.J k F] o λL d=>o.sub d/\∃h r,L=.J h r/\aw (bD d 0) ((a6.chunks a).map a6.leaf) h:=by
 have s:=p.len;have t:=iZ p;have u:=yZ (a:=β a);have v:(ja (hF (β a))).length=a6.bV (β a):=vr.trans vs;refine aM hm PL ?_;refine cl (FG (β a) G o) ?_;rintro _ P⟨S,w,rfl⟩;have A:fF (β a) 0=0:=by simp[fF]
 refine aa ?_;refine ck [0,5] (λb:Nat×ύ×Own=>[(3,.J b.2.1 b.2.2),(4,.v (.int .i64 (fF (β a) b.1))),(6,.v (.int .i64 (b.1)))]) (λb d=>b.1<=a6.bV (β a)/\aw (bD d 0) (((a6.chunks a).take b.1).map a6.leaf) b.2.1/\bk P d 1 b.2.1 b.2.2) (λb=>a6.bV (β a) - b.1) (0,[],.nil) ⟨⟨σ,trivial,bk.nil ι⟩,aK⟩ ?_;rintro⟨c,h,T⟩ V ⟨W,f,x⟩ B
 dsimp only at W f x|-
 have e:=f.len;rw[a7Q,a7z,vt]at e;refine aa ?_;refine ay (λg=>?_) λg=>?_
 .have H:=z6 (e:=β a) (i:=c) ε;have I:=FI (e:=β a) (i:=c+1) ε;have K:=FK (e:=β a) (i:=c) ε;have i:=FJ (a:=a) (e:=c) ε;have y:=(p.take (fF (β a) (c+1))).drop (fF (β a) c);generalize M:fF (β a) (c+1)=z at*;generalize fF (β a) c=C at*;generalize (hF (β a)).getD c 0=j at*;have N:(C)+(j)=(z:Int):=ε;refine ti (iZ y) (λD l O=>?_);refine bg λE Q=>?_;have m:=rb (g:=V) (w:=l.set E (.cells [.J ((k.take z).drop C) D,.J [] .nil]));refine hv (x.mono m) (bD.c f) λ_ r d n q=>?_;refine⟨(c+1,_,r),⟨by simp only;omega,?_,n⟩,⟨rfl,by simp only;congr 3;omega,rfl⟩,by simp only;omega⟩;simp only[i,a8r];exact(f.mono λ_ _=>bD.fW gu).snoc ⟨E,_,D,.nil,rfl,q _ _ (ξ _ _ _),y⟩
 .rw[a7x (by rw[vt];omega)]at f;exact⟨_,ι,π S x.sub,h,T,rfl,f⟩
theorem z7(y:U)(a:List (a6.T e))(p:ύ)(L:Own)(h:U)(r:aw (bD y e) a p)(P:β a<=1000)(S:y.sub h):
  AC δ 126 [.J p L] h λT d=>h.sub d/\∃k x,T=.J k x/\aw (bD d (e+1)) ((a6.chunks a).map a6.node) k:=by
 have A:=r.len;have B:=bD.c r;have V:=yZ (a:=β a);have H:(ja (hF (β a))).length=a6.bV (β a):=vr.trans vs;refine aM hm PN ?_;refine cl (FG (β a) P h) ?_;rintro _ W⟨z,I,rfl⟩;have K:fF (β a) 0=0:=by simp[fF]
 refine aa ?_;refine ck [0,5] (λc:Nat×ύ×Own=>[(3,.J c.2.1 c.2.2),(4,.v (.int .i64 (fF (β a) c.1))),(6,.v (.int .i64 (c.1)))]) (λc d=>c.1<=a6.bV (β a)/\aw (bD d (e+1)) (((a6.chunks a).take c.1).map a6.node) c.2.1/\bk W d 1 c.2.1 c.2.2) (λc=>a6.bV (β a) - c.1) (0,[],.nil) ⟨⟨σ,trivial,bk.nil ι⟩,aK⟩ ?_;rintro⟨b,k,g⟩ i ⟨j,f,o⟩ M
 dsimp only at j f o|-
 have l:=f.len;rw[a7Q,a7z,vt]at l;refine aa ?_;refine ay (λm=>?_) λm=>?_
 .have N:=z6 (e:=β a) (i:=b) ε;have O:=FI (e:=β a) (i:=b+1) ε;have Q:=FK (e:=β a) (i:=b) ε;have n:=FJ (a:=a) (e:=b) ε;have q:(a.take (fF (β a) (b+1))).drop (fF (β a) b)≠[]:=FH (a6.bV (β a)) a V _ (a7J (i:=b+1) (by grind[a6.chunks]));have C:=(r.take (fF (β a) (b+1))).drop (fF (β a) b);generalize X:fF (β a) (b+1)=D at*;generalize fF (β a) b=E at*;generalize (hF (β a)).getD b 0=s at*;have Y:(E)+(s)=(D:Int):=ε;refine ti (bD.c C) (λF t Z=>?_);refine bg λG k2=>?_;have u:=rb (g:=i) (w:=t.set G (.cells [.J [] .nil,.J ((p.take D).drop E) F]));have k3:=π S (π z o.sub);refine hv (o.mono u) (bD.c f) λ_ x d v w=>?_;refine⟨(b+1,_,x),⟨by simp only;omega,?_,v⟩,⟨rfl,by simp only;congr 3;omega,rfl⟩,by simp only;omega⟩;simp only[n,a8r];exact(f.mono λ_ _=>bD.fW gu).snoc ⟨G,_,F,.nil,rfl,w _ _ (ξ _ _ _),C.mono λ_ _=>bD.fW gu,q,by simp[a6.fE];omega⟩
 .rw[a7x (by rw[vt];omega)]at f;exact⟨_,ι,π z o.sub,k,g,rfl,f⟩
end Go.Proofs.YtgchlmdfldnhnaaGreat
