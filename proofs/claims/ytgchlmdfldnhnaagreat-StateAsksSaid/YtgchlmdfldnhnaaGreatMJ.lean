import Derived.Test.YtgchlmdfldnhnaaGreatMI
import Derived.Test.YtgchlmdfldnhnaaGreatMC
import Derived.ProofKit
import Derived.OpenShut
import Derived.WideKeyArgs
import Derived.Test.YtgchlmdfldnhnaaGreatRows
import Derived.JoinedOf
set_option linter.all false
open Option renaming some->γ,none->η
open Go.Proofs.Tryz renaming prog->δ
open Bool renaming true->ζ,false->κ
open Go.bw.U renaming a1->ι,ad->μ,ae->ν,ah->ξ,ao->π,set_set->υ,bH->Ν
open Go.bw.R renaming cells->τ
open UInt8 renaming ofNat->φ
open Go.Proofs.YtgchlmdfldnhnaaGreat.aU renaming bu->Υ
open List renaming length->β
set_option maxRecDepth 100000
namespace Go.Proofs.YtgchlmdfldnhnaaGreat
open Go Go.bw
def a6l:∀ {a b:Ω},lu a b->bP a<=bP b
 |d::a,f::b,c=>by
  show d<=f;rcases c with c|c<;>omega
variable{h4:aU}{e i t I b3 e5:Nat}
def ez.cmp(a:ez e h4):h4.rows.Pairwise λb c=>¬gh c b<0:=by refine aaB ?_ a.dC;intro b c f h k d;rw[rS (by rw[(a.row f).len,(a.row h).len])]at d;have:=a6l d;omega
theorem Jd(h:U)(r E F:Nat)(k:af)(G:List aT)(V:dj h r E F k G)(L:Nat)(a:List aU)(x:dr L a)(W:L<=1000)(e:ji k G a)(b:ϊ):
  AC δ 16 [.ptr r 0,bm b] h λy P=>h.sub P/\(bB a b<β a->∃S,y=.aJ [.J S .any,.v (.int .i64 0)]/\aw isRow (a.getD (bB a b) default).rows S)/\(β a<=bB a b->y=.aJ [.J [] .nil,.v (.int .i64 3)]):=by
 obtain⟨rfl,g⟩:=e;have i:=x.cat W;have j:∀c,a[bB a b]?=γ c->∃d,ey k (β c.bu.aH+1) (c.bu.bK.size.toNat+1) c.bu.bK=γ d/\c.rows.Perm d:=λc l=>by
  have hm:=a7C l;have o:=x.ok c hm;have s:=o.c;have t:=o.de.ch;obtain⟨d,z,C⟩:=H9 ε ε o.de.eV ε (g c hm).1;exact⟨d,z,(C.trans o.fD).symm⟩
 refine(a3G h r E F k (a.map Υ) V i b (a.getD (bB a b) default).rows ?_).mono λy P m=>⟨m.1,λn=>?_,λn=>?_⟩
 .intro c d f T;rw[ov]at f;cases p:a[bB a b]? with
  |none=>rw[p]at f;cases f
  |some D=>
   rw[p]at f;obtain rfl:=Δ f;obtain⟨u,z,C⟩:=j D p;rw[z]at T;obtain rfl:=Δ T;have q:a.getD (bB a b) default=D:=by grind
   rw[q];exact⟨C,(x.ok D (a7C p)).cmp⟩
 grind[w4,bB,default,List.getD,ov];grind[w4,ov,List.getElem?_eq_none]
def a6m:sg.Fit:=cC.ig.fit (by unfold cC.ig;decide)
def a6n:kG.Fit:=cC.ig.fit (by unfold cC.ig;decide)
def a6o:qB.Fit:=cC.ig.fit (by unfold cC.ig;decide)
def a6p:qC.Fit:=cC.ig.fit (by unfold cC.ig;decide)
def a6q:u7.Fit:=cC.ig.fit (by unfold cC.ig;decide)
def a6r:u9.Fit:=cC.ig.fit (by unfold cC.ig;decide)
theorem B8:bs []:=λb a=>by cases a
theorem wK:dr 1 [ij]:=by grind[AI,dr.nil,sg,B8,c3]
theorem Je:bs qB.row:=λa b=>by
 grind[qB]
theorem a6s:bs qC.row:=λa b=>by
 grind[qC]
theorem sh:dr 2 [eR]:=by grind[AI,wK,kG,bS]
variable{j8:Int × List aT × af}
def a6t(c:eP af.new [] sg j8):j8=(0,[ij].map Υ,af.new)/\ji af.new ([ij].map Υ) [ij]:=by
 have a:=Jc c (.inl rfl);have b:=u2 c (dr.nil (n:=0)) ε B8 ⟨rfl,λh d=>by cases d⟩ (by rw[a];rfl);rw[c3]at b;obtain⟨v,k,o⟩:=j8
 dsimp only at a b
 obtain⟨rfl,f⟩:=b;subst a;obtain rfl:=f.eq;trivial
def a6u(d:eP af.new ([ij].map Υ) kG j8)(a:ji af.new ([ij].map Υ) [ij]):j8=(0,[eR].map Υ,gq)/\ji gq ([eR].map Υ) [eR]:=by
 have b:=a6k d wK;have c:=u2 d wK ε B7.iY a (by rw[b];exact Jb);rw[bS]at c;obtain⟨v,f,h⟩:=j8
 dsimp only at b c
 obtain⟨rfl,a⟩:=c;subst b;obtain rfl:=a.eq;trivial
def a6v(a:eP gq ([eR].map Υ) qB j8)(b:ji gq ([eR].map Υ) [eR]):j8=(8,[eR].map Υ,gq):=by have c:=B6 a sh ε Je b (by rw[dB];decide);trivial
def a6w(a:eP gq ([eR].map Υ) qC j8)(b:ji gq ([eR].map Υ) [eR]):j8=(6,[eR].map Υ,gq):=by have c:=B6 a sh ε a6s b (by rw[eI];decide);trivial
def a6x(a:eP gq ([eR].map Υ) u7 j8)(b:ji gq ([eR].map Υ) [eR]):j8=(9,[eR].map Υ,gq):=by have c:=B6 a sh ε Je b (by rw[hX];decide);trivial
def a6y(d:eP gq ([eR].map Υ) u9 j8)(a:ji gq ([eR].map Υ) [eR]):j8=(0,[],gq)/\ji gq [] []:=by
 have b:=Jc d (.inr rfl);have c:=u2 d sh ε B8 a (by rw[b];exact Jb);rw[eH]at c;obtain⟨v,f,h⟩:=j8
 dsimp only at b c
 obtain⟨rfl,a⟩:=c;subst b;obtain rfl:f=[]:=a.eq;trivial
def Jf:cN []=true:=(dr.nil (n:=0)).cat ε
def a6z:cN ([ij].map Υ)=true:=wK.cat ε
def wL:cN ([eR].map Υ)=true:=sh.cat ε
def a6A(a:Own):(⟨sg,a,.nil⟩:cX).V=.agg [.v (.int .u8 1),.v (.string ⟨#[116]⟩),.J [.v (.string ⟨#[97]⟩)] a,.J [] .nil]:=rfl
def a6B(a:Own):(⟨kG,.nil,a⟩:cX).V=.agg [.v (.int .u8 3),.v (.string ⟨#[116]⟩),.J [] .nil,.J [.v (.int .i64 1),.v (.int .i64 5)] a]:=rfl
def a6C(a:Own):(⟨qB,.nil,a⟩:cX).V=.agg [.v (.int .u8 3),.v (.string ⟨#[116]⟩),.J [] .nil,.J [.v (.int .i64 1),.v (.int .i64 6)] a]:=rfl
def a6D(a:Own):(⟨qC,.nil,a⟩:cX).V=.agg [.v (.int .u8 3),.v (.string ⟨#[116]⟩),.J [] .nil,.J [.v (.int .i64 2),.v (.int .i64 3),.v (.int .i64 4)] a]:=rfl
def a6E(a:Own):(⟨u7,.nil,a⟩:cX).V=.agg [.v (.int .u8 4),.v (.string ⟨#[116]⟩),.J [] .nil,.J [.v (.int .i64 1),.v (.int .i64 6)] a]:=rfl
def a6F:(⟨u9,.nil,.nil⟩:cX).V=.agg [.v (.int .u8 2),.v (.string ⟨#[116]⟩),.J [] .nil,.J [] .nil]:=rfl
def Jg:bm [116]=.v (.string ⟨#[116]⟩):=rfl
variable{s b8:R}{g w h7:U}{e7:List aT}{Z e0 j0 k1:Prop}{H:af}
theorem si(f:dj g e i t H e7)(b:cN e7=ζ)(a:cX)(h:a.d.Fit)(k:a.V=s)(o:∀res,eP H e7 a.d res->res=j8/\Z):
  AC δ 15 [.ptr e 0,s] g λc d=>c=.v (.int .i64 j8.1)/\dj d e i t j8.2.2 j8.2.1/\Z:=by
 subst k;exact(Hx g e i t H e7 f (I4 b) b a h).mono λc d ⟨res,p,r,x,y⟩=>by
  grind
def B9:Nat->dv->dv
 |0,a=>a
 |b+1,.seq _ c=>B9 b c
 |_+1,a=>a
variable{l:Fr}
def a6G(L:l 1=.ptr e 0)(P:l 2=.v (.int .i64 0))(S:l 3=.v (.int .i64 0))(T:l 4=.v (.int .i64 8))(V:l 5=.v (.int .i64 6))(W:l 6=.v (.int .i64 9))(c:dj g e i t gq ([eR].map Υ))(d:ji gq ([eR].map Υ) [eR]):
  bR (Ctx.of δ) (B9 8 xB.code) (pR [(0,η)] λy _=>y=.v (.bool ζ)) l g:=by
 simp only[xB,B9];refine aa ?_;have a:=Jd g e i t gq _ c 2 _ sh ε d [116];rw[Jg]at a;refine ak a ?_;clear a;rintro _ gu⟨h,b,_⟩;obtain⟨k,rfl,f⟩:=b Μ;have f:aw isRow [[1,5]] k:=by rw[<-a6j];exact f
 have o:=c.sub h;clear c h b;refine aa ?_;refine ak (si o wL ⟨u9,.nil,.nil⟩ a6r a6F λres z=>a6y z d) ?_;rintro _ C⟨rfl,p,r⟩;clear o d;refine aa ?_;have a:=Jd C e i t gq _ p 0 [] dr.nil ε r [116];rw[Jg]at a;refine ak a ?_;clear a;rintro _ j⟨D,_,b⟩;obtain rfl:=b Μ;clear p r b D;refine aa ?_;refine eF ι (by simp[ba,τ]) λx m n=>?_;refine aa ?_;refine eF ι (by simp[ba,τ]) λE q s=>?_;refine aa ?_;have F:=λG=>Fw [[1,5]] [[1,5]] k [.J [.v (.int .i64 1),.v (.int .i64 5)] x] .any E G f ⟨⟨x,rfl⟩,trivial⟩ σ σ;refine aP (F _) ?_;exact⟨_,ι⟩
def a6H(c:U):AC δ 4 [] c λP V=>P=.v (.bool ζ):=by refine aM hm Mg ?_;generalize S:dv.seq (dv.plain (aC 36 1:: _)) _=W;refine ak (Hn c) ?_;rintro _ e⟨g,i,j,rfl,-,-,-,-,d⟩;refine aa ?_;refine eF ι (by simp[ba,τ]) λf l h=>?_;refine aa ?_;refine ak (si (d.sub h.sub) Jf ⟨sg,f,.nil⟩ a6m (a6A f) λres a=>a6t a) ?_;rintro _ m⟨rfl,k,o⟩;clear h d;refine aa ?_;refine eF ι (by simp[ba,τ]) λp n r=>?_;refine aa ?_;refine ak (si (k.sub r.sub) a6z ⟨kG,.nil,p⟩ a6n (a6B p) λres a=>a6u a o) ?_;rintro _ q⟨rfl,x,b⟩;clear r k o;refine aa ?_;refine eF ι (by simp[ba,τ]) λy s z=>?_;refine aa ?_;refine ak (si (x.sub z.sub) wL ⟨qB,.nil,y⟩ a6o (a6C y) (Z:=True) λres a=>⟨a6v a b,trivial⟩) ?_;rintro _ t⟨rfl,C,-⟩;clear z x;refine aa ?_;refine eF ι (by simp[ba,τ]) λD u E=>?_;refine aa ?_;refine ak (si (C.sub E.sub) wL ⟨qC,.nil,D⟩ a6p (a6D D) (Z:=True) λres a=>⟨a6w a b,trivial⟩) ?_;rintro _ v⟨rfl,F,-⟩;clear E C;refine aa ?_;refine eF ι (by simp[ba,τ]) λG w L=>?_;refine aa ?_;refine ak (si (F.sub L.sub) wL ⟨u7,.nil,G⟩ a6q (a6E G) (Z:=True) λres a=>⟨a6x a b,trivial⟩) ?_;rintro _ A⟨rfl,T,-⟩;clear L F;refine aa ?_;subst S;exact a6G rfl rfl rfl rfl rfl rfl T b
structure sj(a b:U)(c eK d W:Nat)(f:af)(l:List aT)(cR:List aU)(n:Nat):Prop where
 lD:wI b c eK d W f l cR n
 sub:a.sub b
 Jh:a c=η
 Ji:a eK=η
 Jj:a d=η
 yX:a W=η
def sj.step{C D r x:U}{f h k o y:Nat}{z:af}{E:List aT}{p:List aU}(a:sj C D f h k o z E p y)(S:y<900){d:cC}(T:bs d.row){c:Int×List aT×af}(V:eP z E d c)
  (W:dj r f h k c.2.2 c.2.1) (F:cE f h k D r) (e:ic x o (fh p d).2) (G:eQ o r x):sj C x f h k o c.2.2 c.2.1 (fh p d).2 (y+1)/\z.le c.2.2/\(c.2.2.one=κ->c.1=(fh p d).1):=by
 obtain⟨g,i,j⟩:=a.lD.step S T V W F e G;refine⟨⟨g,λL P b=>G L P ?_ (F L P ?_ ?_ ?_ (a.sub _ _ b)),a.Jh,a.Ji,a.Jj,a.yX⟩,i,j⟩
 .rintro rfl;rw[a.yX]at b;cases b
 .rintro rfl;rw[a.Jh]at b;cases b
 .rintro rfl;rw[a.Ji]at b;cases b
 .rintro rfl;rw[a.Jj]at b;cases b
theorem a6I(p:List cX)(n:Own)(y:U)(q:∀T∈p,T.d.ig/\bs T.d.row)(Z:β p<=9223372036854775807):
  AC δ 6 [.J (mo p) n] y λV F=>V=.aJ [.v (.pointer η),.v (.pointer η)]\/∃c k o W d r D e,V=.aJ [.ptr c 0,.ptr W 0]/\e<=40/\d.one=κ/\sj y F c k o W d r D e:=by
 have k2:=AM (a:=p);refine aM hm Mk ?_;refine ak (Hn y) ?_;rintro _ s⟨c,k,o,rfl,G,t,u,v,w⟩;refine aa ?_;refine aR λW L=>?_;have A:=w.sub (ν (b0:=.cells [.J [] .nil]) ι L);have a:sj y (s.set W (.cells [.J [] .nil])) c k o W af.new [] [] 0:=⟨⟨A,Jf,⟨[],.nil,ξ _ _ _,trivial⟩,dr.nil,λ_=>⟨rfl,λk3 P=>by cases P⟩⟩,ν G (Ν G L),t,u,v,Ν G L⟩;refine aa ?_;refine ck [0,4,5] (λf:Nat×af×List aT×List aU=>[(6,.v (.int .i64 (f.1)))]) (λf F=>f.1<=40/\f.1<=β p/\sj y F c k o W f.2.1 f.2.2.1 f.2.2.2 f.1) (λf=>40 - f.1) (0,af.new,[],[]) ⟨⟨σ,a7Y _,a⟩,aK⟩ ?_;rintro⟨E,d,r,D⟩ z ⟨B,H,a⟩ k4
 dsimp only at B H a|-
 refine aa ?_;refine ay (λI=>?_) λI=>?_
 .refine ay (λaL=>?_) λaL=>?_
  .have g:E<β p:=ε;have i:=Τ g;have k5:=I0 i;obtain⟨j,l⟩:=q _ (a7C i);generalize p[E]=h at*;have K:=Hx z c k o d r a.lD.st (I4 a.lD.cat) a.lD.cat h j.fit;have M:=λx P=>a4E x W E D P a.lD.inv ε h j.fit l;have k6:β h.C=4:=rfl;have k7:(.agg (h.C.take 4))=h.V:=rfl;have k8:aX ζ 4 h.C=h.V:=rfl;generalize h.C=k9 at*;generalize h.V=UV at*;refine aa ?_;refine ak K ?_;rintro _ x⟨res,N,rfl,O,m⟩;refine aa ?_;refine ak (M x (a.lD.rs.pw (m.rs a.lD.st))) ?_;rintro _ l0⟨Q,X,rfl⟩;obtain⟨Y,l1,l2⟩:=a.step ε l N O m Q X;refine aa ?_;exact⟨(E+1,res.2.2,res.2.1,(fh D h.d).2),⟨by simp only;omega,g,Y⟩,rfl,by simp only;omega⟩
  .cases C:d.one with
   |true=>have b:=wJ z c k o d r a.lD.st;rw[C]at b;refine ak b ?_;rintro _ x⟨S,rfl⟩;refine aa ?_;grind
   |false=>have b:=wJ z c k o d r a.lD.st;rw[C]at b;refine ak b ?_;rintro _ x⟨S,rfl⟩;refine aa ?_;grind
 .cases C:d.one with
  |true=>have b:=wJ z c k o d r a.lD.st;rw[C]at b;refine ak b ?_;rintro _ x⟨S,rfl⟩;refine aa ?_;grind
  |false=>have b:=wJ z c k o d r a.lD.st;rw[C]at b;refine ak b ?_;rintro _ x⟨S,rfl⟩;refine aa ?_;grind
def a6J(a:U):AC δ 4 [] a λd f=>a.sub f/\d=.v (.bool ζ):=by have h:=(a6H U.emp).frame (t:=a) (λb=>.inl rfl);have c:U.emp.join a=a:=funext λb=>rfl;rw[c]at h;exact h.mono λd f ⟨r,o,p,c⟩=>⟨by rw[c];exact λb x k=>by rw[U.oD ((p b).resolve_right (by simp[k]))];exact k,o⟩
variable{N j2:Int}{Q:List Ω}{e2:cb}
def oy.le{f:List Ω}(d:oy e2 Q f N):β f<=β Q/\∀a∈f,a∈Q:=by
 unfold oy at d;split at d
 .rw[d.1];simp
 .rw[d.2];have h:∀b:List Ω,(eC e2.lim b).length<=β b/\∀a∈eC e2.lim b,a∈b:=λb=>by
   unfold eC;split
   .exact⟨by rw[a7z];omega,λa c=>a7J c⟩
   .exact⟨Χ _,λa c=>c⟩
  obtain⟨k,o⟩:=h (pv e2.cY (df e2 Q));refine⟨a8w k ?_,λa c=>(a9b.1 (B4.mem_iff.1 (o a c))).1⟩;rw[B4.length_eq];exact a9i _ _
def nq.step{d:List Ω}{id:Int}{h a:Ω}(b:nq d id h):(a.getD 0 0=id->nq (d++[a]) id a)/\(a.getD 0 0≠id->nq (d++[a]) id h):=by
 refine⟨λf=>.inr ⟨σ,f⟩,λf=>?_⟩;rcases b with⟨rfl,b⟩|⟨b,k⟩
 .refine .inl ⟨rfl,λo c=>?_⟩;rcases Ψ.1 c with c|c
  .exact b o c
  .rw[a7H.1 c];exact f
 .exact .inr ⟨a9x _ b,k⟩
theorem a6K(F:List cX)(O:Own)(h:ϊ)(k:cb)(z C D:Own)(id:Int)(n3:β F<=9223372036854775807)(Q:∀G∈F,bs G.d.row)(a99:β h<=9223372036854775807)(X:k.In)(b00:fi id)(a:U):
  AC δ 3 [.J (mo F) O,bm h,.agg (k.V z C D),.v (.int .i64 id)] a λc _=>c=.v (.bool ζ):=by
 have b01:=AM (a:=F);have b02:=bn (n:=k.cY.at_);refine aM hm Mf ?_;refine bg λu b03=>?_;have a38:=ξ a u (.cells (k.V z C D));generalize a.set u _=a42 at*;refine ak (a6J a42) ?_;rintro _ Y⟨a43,rfl⟩;have n4:=a43 _ _ a38;have Z:=μ n4;refine aa ?_;refine ak (a6g F O Y n3) ?_;rintro _ Y⟨rfl,a47,rfl,n5⟩;cases a47 with
 |true=>refine aa ?_;exact⟨_,ι⟩
 |false=>
  obtain⟨b04,n9⟩:=n5 rfl;clear n5;refine aa ?_;refine ay (λk2=>?_) λk2=>?_
  .exact⟨_,ι⟩
  refine ak (a6I F O Y (λG V=>⟨n9 G V,Q G V⟩) n3) ?_;rintro _ a48(rfl|⟨k3,k4,k5,W,k6,b05,d,a00,rfl,b06,a52,k7⟩)
  .refine aa ?_;exact⟨_,ι⟩
  have e:=k7.lD;have k8:=e.rep a52;have L:=e.inv;have a56:=L.cat ε;have v:=e.st;rw[k8.eq]at v;have a01:=e.rs;have k9:=k8.ins;have l0:=k7.sub _ _ n4;have b07:β k.cY.at_<=50:=ε;have b08:=L.ev;clear k8 k7 e n9;have Z:=μ l0;have b09:=@υ;refine aa ?_;refine ak (IX a48 k3 k4 k5 k6 a00 d v L ε k9 h k X ε z C D ζ) ?_;rintro _ a02⟨a03,c3,a57,rfl,g⟩;obtain⟨w,A,a04,b10,rfl,rfl,i⟩:=Ja g;clear g;have l1:=a03 _ _ l0;have Z:=μ l1;refine aa ?_;refine aR λj l2=>?_;have b11:u≠j:=by rintro rfl;rw[l1]at l2;cases l2
  refine aa ?_;generalize E:a02.set j (.cells [.J w A,.v (.int .i64 a04)])=l3;have a05:a02.sub l3:=by subst E;exact ν ι l2
  have a61:l3 j=γ (.cells [.J w A,.v (.int .i64 a04)]):=by subst E;exact ξ _ _ _
  clear E;have a06:=π a03 a05;refine ak (IX l3 k3 k4 k5 k6 a00 d (v.sub a06) L ε k9 h k X ε z C D κ) ?_;rintro _ a07⟨l4,bS,b12,rfl,g⟩;obtain⟨B,H,p,b13,rfl,rfl,P⟩:=Ja g;clear g;have a62:=l4 _ _ (a05 _ _ l1);have l5:=l4 _ _ a61;refine aa ?_;refine aR λl m=>?_;have b14:u≠l:=by rintro rfl;rw[a62]at m;cases m
  have b15:j≠l:=by rintro rfl;rw[l5]at m;cases m
  refine aa ?_;generalize E:a07.set l (.cells [.J B H,.v (.int .i64 p)])=l6;have l7:a07.sub l6:=by subst E;exact ν ι m
  have a08:l6 l=γ (.cells [.J B H,.v (.int .i64 p)]):=by subst E;exact ξ _ _ _
  clear E;have a09:=π a06 (π l4 l7);refine ak (Hq l6 k3 k4 k5 k6 _ (v.sub a09) a56 h id) ?_;rintro c a10⟨n,f⟩;have f:=a6e L ε k9 f;have l8:=π a09 n;have q:=HR a10 W d (a01.sub l8) h ε;unfold pn at q;unfold B5 at i P;have Z:=μ (l8 _ _ l0);have a63:=μ (n _ _ (l7 _ _ l5));have a65:=μ (n _ _ a08);by_cases tR:bB d h<β d;rotate_left
  .rw[if_neg tR]at f q i P;subst i P;obtain rfl:=f;refine aa ?_;refine aP q ?_;exact⟨_,ι⟩
  rw[if_pos tR]at f q i P;obtain⟨G,a68,V,rfl⟩:=f;obtain⟨b16,b17,a69,a11⟩:=a01.sub l8;have a71:=qv tR;have a73:d[bB d h]?=γ (d.getD (bB d h) default):=by rw[a7V,Τ tR];rfl
  obtain⟨_,a57,b18,b19,a74,a81,r,b20,rfl,a83,l9,_,_⟩:=a11.get a73;have x:=L.ok _ a71;generalize d.getD (bB d h) default=b at*;generalize bB d h=a84 at*;have b21:=a11.len;have b22:=μ a69;have b23:=μ a83;have b24:=l9.len;have b25:=bn (n:=G);have b26:=x.c;have b27:=x.ev;have b28:¬((a84:Int)<0):=ε;refine aa ?_;refine aP q ?_;refine aa ?_;have b29:ab []=[]:=rfl;refine fO [1,3,6,9,10,11,12,13,14,15,16,17,18] (λr:Nat×Ω×Own=>[(20,.v (.int .i64 (r.1:Int))),(19,.J (ab r.2.1) r.2.2)]) (λr=>r.1<=β b.rows/\nq (b.rows.take r.1) id r.2.1) (λr=>β b.rows - r.1) (0,[],.nil) ⟨a7Y _,.inl ⟨rfl,σ⟩⟩ aK ?_;rintro⟨y,S,a13⟩ ⟨Q,s⟩ b30
  dsimp only at Q s|-
  refine aa ?_;refine ay (λk2=>?_) λk2=>?_
  .have a14:b.rows[y]?=γ (b.rows.getD y []):=by simp_all
   obtain⟨_,b31,a15,rfl⟩:=l9.get a14;have b32:=(x.row (a7C a14)).len;have a86:=fX (a:=b.rows) (b:=[]) (e:=y) ε;have n0:=s.step (a:=b.rows.getD y []);rw[<-a86]at n0;generalize b.rows.getD y []=a16 at*;have b33:=hZ (n:=a16) ε a15;refine aa ?_;refine ay (λc2=>?_) λc2=>?_
   .exact⟨(y+1,a16,a15),⟨by simp only;omega,n0.1 c2⟩,⟨rfl,rfl⟩,by simp only;omega⟩
   .exact⟨(y+1,S,a13),⟨by simp only;omega,n0.2 c2⟩,⟨rfl,rfl⟩,by simp only;omega⟩
  .obtain rfl:y=β b.rows:=ε;rw[a8c]at s;obtain rfl:=nq.one x s V;clear s;have b34:β S<=1000:=by
    rcases V with⟨rfl,_⟩|⟨o,_⟩
    .simp
    .have:=(x.row o).len;omega
   have a18:=λa=>qe S S a68 a13 a ε;have b35:(!(decide (0<β S)==decide ((0:Int)<(β S:Int))))=false:=σ;have b36:(bX b.aH).length=β b.aH:=by simp[bX]
   have I:∀a,AC δ 11 [.agg (k.V z C D),.v (.int .i64 ((β b.aH:Int)+1))] a λc t=>t=a/\c=.v (.bool (k.ok (β b.aH+1))):=λa=>a5H k z C D (β b.aH+1) ε ε a;rcases i with⟨T,rfl⟩|⟨T,rfl,b37,a88,a89⟩
   .rcases P with⟨_,rfl⟩|⟨o,_⟩;rotate_left
    .rw[T]at o;cases o
    rw[T]at I;refine aa ?_;refine aP (a18 _) ?_;refine aP (I _) ?_;exact⟨_,ι⟩
   .rcases P with⟨o,_⟩|⟨_,rfl,b38,a90,a92⟩
    .rw[T]at o;cases o
    rw[T]at I;have a94:=a6d k X z C D (β b.aH+1) T ε b.rows a74 a81 a10 l9 (λc f=>x.row f) ε;have a95:=n _ _ (l7 _ _ l5);have a96:=n _ _ a08;refine aa ?_;refine aP (a18 _) ?_;refine aP (I _) ?_;refine ak a94 ?_;rintro _ b39⟨a19,rows,K,M,b40,n2,a27,rfl⟩;obtain⟨rfl,rfl⟩:=J9 a88 n2;obtain⟨rfl,rfl⟩:=J9 a90 n2;have a29:=a19 _ _ a95;have a30:=a19 _ _ a96;refine aa ?_;refine aR λa34 N=>?_;have b41:j≠a34:=by rintro rfl;rw[a29]at N;cases N
    have b42:l≠a34:=by rintro rfl;rw[a30]at N;cases N
    have a63:=μ a29;have a65:=μ a30;obtain⟨b43,a36⟩:=n2.le;have a97:∀a,AC δ 13 [.agg [.J w A,.v (.int .i64 p)],.agg [.J K M,.v (.int .i64 p)]] a λc t=>t=a/\c=.v (.bool ζ):=λa=>by
     have o:=J8 _ _ w K A M p p a a89 a27 ε (λc f=>by have:=(x.row (a36 c f)).len;omega);simpa only[decide_true,aaE] using o
    have a98:∀a,AC δ 13 [.agg [.J B H,.v (.int .i64 p)],.agg [.J K M,.v (.int .i64 p)]] a λc t=>t=a/\c=.v (.bool ζ):=λa=>by
     have o:=J8 _ _ B K H M p p a a92 a27 ε (λc f=>by have:=(x.row (a36 c f)).len;omega);simpa only[decide_true,aaE] using o
    refine aa ?_;refine aP (a97 _) ?_;refine aP (a98 _) ?_;exact⟨_,ι⟩
end Go.Proofs.YtgchlmdfldnhnaaGreat
namespace Go.bw
open Go Go.ChangeShapes Go.WideShapes Go.RowKit
def mu(a:World):bf:=λb c=>a.cell? ⟨b,c,η⟩
def a6L(b:World):Holds (mu b) U.emp b:=⟨λ_ _ _ a=>a,λ_ _ a=>by cases a⟩
def fJ(h:bf)(a:List Value)(b:ύ):Prop:=β a=β b/\∀(c:Nat)(d:Value)(f:R),a[c]?=γ d->b[c]?=γ f->aW h d f
variable{v:bf}
theorem fJ.nil:fJ v [] []:=⟨rfl,λb c d a=>by simp at a⟩
variable{j B b7:ύ}
def fJ.append{f h:List Value}(c:fJ v f j)(k:fJ v h B):fJ v (f++h) (j++B):=by
 refine⟨by simp[c.1,k.1],λr o p b a=>?_⟩;rw[aaQ]at b a;rw[<-c.1]at a;split at b
 .rename_i d;rw[if_pos d]at a;exact c.2 r o p b a
 .rename_i d;rw[if_neg d]at a;exact k.2 _ o p b a
variable{s b8:R}{e8:Value}
theorem fJ.one(a:aW v e8 s):fJ v [e8] [s]:=⟨rfl,λb c d f h=>by
 grind⟩
def fJ.Ba{a:Array Value}(b:fJ v a.toList j):bp v a j:=bp.ee.2 b
def cS(f:Program)(h:TypeId)(k:ύ->Prop):Prop:=
 ∀ {b:Type} (o:TypeId×Value->b) (c:World) (p:Nat) (r:Nat->Bool) (x:Bool) (y:Nat) (d:List Value) (z:DataW b×List MemPlace),DataW.trod o f c p r x y h d=γ z->
  ∃a,k a/\(∀C∈a,C.one=ζ)/\fJ (mu c) d a
def Bb(a:ύ):Prop:=∃b:Bool,a=[.v (.bool b)]
def SInt(a:IntKind)(c:ύ):Prop:=∃b:Int,(Lit.int a b).wf=ζ/\c=[.v (.int a b)]
def sk(a:ύ):Prop:=∃b:UInt8,a=[av b]
def px(a:ύ):Prop:=∃aN:ϊ,β aN<=maxLen/\a=[bm aN]
def qD:List (ύ->Prop)->ύ->Prop
 |[],us=>us=[]
 |c::d,us=>∃a b,c a/\qD d b/\us=a++b
def a6M(a:ύ->Prop):Nat->ύ->Prop
 |0,us=>us=[]
 |d+1,us=>∃b c,a b/\a6M a d c/\us=b++c
def wM(b:ύ->R)(c:ύ->Prop)(d:ύ):Prop:=∃a:List ύ,(∀f∈a,c f)/\β a<=maxLen/\d=[.J (a.map b) .any]
variable{q:Program}{b6:TypeId}
def cS.bool(a:q.underlying b6=γ .bool):cS q b6 Bb:=λd f h k o p r x b=>by
 obtain⟨c,rfl,_⟩:=DataW.trod_bool a b;exact⟨_,⟨c,rfl⟩,by simp[R.one],fJ.one (.v _ rfl)⟩
variable{e4:IntKind}
def cS.int(a:q.underlying b6=γ (.int e4)):cS q b6 (SInt e4):=λf h k o p r x y b=>by
 obtain⟨c,rfl,_,d⟩:=DataW.trod_int a b;exact⟨_,⟨c,d,rfl⟩,by simp[R.one],fJ.one (.v _ rfl)⟩
def cS.byte(b:q.underlying b6=γ (.int .u8)):cS q b6 sk:=λh k o p r x y z c=>by
 obtain⟨a,rfl,_,d⟩:=DataW.trod_int b c;obtain⟨C,D⟩:=bounds_u8 d;have f:(Value.int .u8 a)=.int .u8 ((φ a.toNat).toNat):=by congr 1;rw[a9j];omega
 refine⟨_,⟨φ a.toNat,rfl⟩,by simp[av,R.one],fJ.one ?_⟩;rw[av,<-f];exact .v _ rfl
def cS.str(b:q.underlying b6=γ .string):cS q b6 px:=λf h k o p r x y c=>by
 obtain⟨a,rfl,_,z⟩:=DataW.trod_string b c;refine⟨_,⟨a.data.toList,by trivial,rfl⟩,by simp[bm,R.one],fJ.one ?_⟩;have d:(⟨a.data.toList.toArray⟩)=a:=by cases a;simp
 rw[bm,d];exact .v _ rfl
def Bc(a:Program):List Field->List (ύ->Prop)->Nat->Nat->Prop
 |[],[],off,b=>off=b
 |c::d,f::rs,off,b=>c.offset=off/\cS a c.type f/\Bc a d rs (off+a.cellsOf c.type) b
 |_,_,_,_=>False
theorem cS.struct{b:Array Field}{p:List (ύ->Prop)}(E:q.underlying b6=γ (.struct b))(F:Bc q b.toList p 0 (q.cellsOf b6)):cS q b6 (qD p):=λG x L P S B o H T=>by
 obtain⟨V,W,_,_,e,g,i⟩:=DataW.trod_struct E T;have j:∀(h:List Field)(c:List (ύ->Prop))(a d:Nat),b.toList.drop a=h->Bc q h c d (q.cellsOf b6)->∃f,qD c f/\(∀l∈f,l.one=ζ)/\fJ (mu x) (o.drop d) f:=by
  intro h
  induction h with
  |nil=>
   intro c a d m r;cases c with
   |cons _ _=>trivial
   |nil=>exact⟨[],rfl,σ,by rw[a9n (by rw[e];exact abH r.symm)];exact fJ.nil⟩
  |cons k h ih=>
   intro c a d m r;cases c with
   |nil=>trivial
   |cons I c=>
    obtain⟨y,z,C⟩:=r;have K:a<β b.toList:=by grind[List.drop_of_length_le]
    have n:b.toList[a]=k/\b.toList.drop (a+1)=h:=by grind[List.drop_eq_getElem_cons,List.cons.inj]
    obtain⟨f,s,M,t⟩:=ih c (a+1) _ n.2 C;have u:b[a]?=γ k:=by grind
    have:=i a k u;have v:a<β V:=by rw[g];trivial
    rw[Τ v,y]at this;obtain⟨D,w,N,a3⟩:=z G x L P S W _ _ this;refine⟨D++f,⟨D,f,w,s,rfl⟩,?_,?_⟩;grind
    .have A:o.drop d=(o.drop d).take (q.cellsOf k.type)++o.drop (d+q.cellsOf k.type):=by rw[<-a8p,a8d]
     rw[A];exact a3.append t
 obtain⟨f,y,z,C⟩:=j b.toList p 0 0 rfl F;grind
theorem Jk{f k:Type}(c:f->Option k):∀(a:List f)(d:List k),a.mapM c=γ d->β d=β a/\∀(o:Nat)(p:f),a[o]?=γ p->∃r,d[o]?=γ r/\c p=γ r
 |[],d,b=>by simp_all
 |y::a,d,b=>by
  rw[List.mapM_cons]at b;cases x:c y with
  |none=>simp[x]at b
  |some C=>
   cases h:a.mapM c with
   |none=>simp[h]at b
   |some z=>simp[x,h]at b;subst b;obtain⟨D,E⟩:=Jk c a z h;grind
variable{e i t I b3 e5:Nat}{m j4:World}
def Jl{d:Addr}{c:List Value}(b:m.cells? i d e=γ c):β c=e/\∀a,a<e->c[a]?=m.cell? (d.add a):=by
 unfold World.cells? at b;split at b
 .obtain⟨f,h⟩:=Jk _ _ _ b;refine⟨by simpa using f,λa k=>?_⟩;obtain⟨r,o,p⟩:=h a a (by simp[k]);rw[o,p]
 .cases b
theorem a6N{b:Addr}(a:m.cell? b=γ e8):b.spot=none:=by
 unfold World.cell? at a;split at a;simp_all
 .cases a
theorem add_add{a:Addr}(d:a.spot=η)(b:Nat):a.add b=⟨a.block,a.off+b,η⟩:=by
 unfold Addr.add;split
 .rename_i c;subst c;cases a;simp_all
 .rfl
structure ua(b:ύ->R)(a:ύ->Prop)(k:Nat):Prop where
 len:∀us,a us->β us=k
 cells:∀us,a us->(b us).cells=us
def Jm{c:ύ->R}{d:ύ->Prop}{k:Nat}(f:ua c d k):∀b:List ύ,(∀a∈b,d a)->flat (b.map c)=b.flatten
 |[],_=>rfl
 |a::b,h=>by
  simp only[a7O,flat,a7R,a9p];rw[f.cells a (h a σ)];have:=Jm f b λa o=>h a (by simp[o]);simp only[flat]at this;rw[this]
theorem cS.slice{u:TypeId}{p:ύ->Prop}{l:ύ->R}(Z:q.underlying u=γ (.slice b6))(k2:q.cellsOf b6=e)(m:0<e)(E:ua l p e)(k3:cS q b6 p):cS q u (wM l p):=λk4 h v k5 k6 n5 n9 k k7=>by
 rcases DataW.trod_slice Z k7 with⟨rfl,_⟩|⟨V,len,w,k8,a00,k9,_,rfl,_,a01,l0,a02,a03,A,_,_⟩
 .exact⟨_,⟨[],σ,σ,rfl⟩,by simp[R.one],fJ.one (.dk η 0 .any (λ_=>rfl) trivial)⟩
 .rw[k2]at A;have B:∀c,c<len->∃b r,p b/\(∀x∈b,x.one=ζ)/\h.cells? v (V.add (c*e)) e=γ r/\fJ (mu h) r b:=λc o=>by
   have H:=A c o;have l1:c<β k8:=ε;rw[Τ l1,Option.bind_eq_some_iff]at H;obtain⟨r,W,n⟩:=H;obtain⟨b,s,I,K⟩:=k3 k4 h v k5 k6 k9 r _ n;grind
  by_cases l2:len=0
  .subst l2;exact⟨_,⟨[],σ,σ,rfl⟩,by simp[R.one],fJ.one (.dk (γ V) w .any (λl3=>by cases l3) trivial)⟩
  .have M:V.spot=none:=by obtain⟨b,r,_,_,W,_⟩:=B 0 ε;obtain⟨n,t⟩:=Jl W;have P:=t 0 m;simp only[aaM]at P;grind[List.getElem?_eq_getElem,Addr.add,a6N]
   obtain⟨y,z,a04⟩:=V;simp only at M;subst M;have l4:∃d:List ύ,β d=len/\∀c b,d[c]?=γ b->p b/\(∀x∈b,x.one=ζ)/\∀a f,b[a]?=γ f->∃k,h.cell? ⟨y,z+(c*e+a),η⟩=γ k/\aW (mu h) k f:=by
    have:∀C,C<=len->∃d:List ύ,β d=C/\∀c b,d[c]?=γ b->p b/\(∀x∈b,x.one=ζ)/\∀a f,b[a]?=γ f->∃k,h.cell? ⟨y,z+(c*e+a),η⟩=γ k/\aW (mu h) k f:=by
     intro C
     induction C with
     |zero=>simp
     |succ C ih=>
      intro a05;obtain⟨d,S,T⟩:=ih ε;obtain⟨b,r,s,I,W,K⟩:=B C ε;refine⟨d++[b],by simp[S],λc N o=>?_⟩;rw[aaQ]at o;split at o
      .exact T c N o
      .rename_i a06;have l5:c=C:=by grind
       subst l5;have:N=b:=by simp_all
       subst this;refine⟨s,I,λa f g=>?_⟩;have l6:a<e:=by have:=(a7B.1 g).1;rw[E.len _ s]at this;exact this
       obtain⟨n,t⟩:=Jl W;have P:=t a l6;have O:a<β r:=ε;rw[Τ O]at P;have l7:((⟨y,z,η⟩:Addr).add (c*e)).add a=⟨y,z+(c*e+a),η⟩:=by rw[add_add (by rw[add_add rfl]),add_add rfl];simp[aaZ]
       rw[l7]at P;exact⟨r[a],P.symm,K.2 a _ _ (Τ O) g⟩
    simp_all
   obtain⟨d,S,T⟩:=l4;have F:∀b6∈d,p b6:=λb6 D=>by
    obtain⟨c,o,rfl⟩:=a8e D;exact(T c _ (Τ o)).1
   have Q:=Jm E d F;have l8:∀(G:List ύ),(∀b6∈G,p b6)->∀a f,G.flatten[a]?=γ f->∃b,G[a/e]?=γ b/\b[a%e]?=γ f:=by
    intro G
    induction G with
    |nil=>intro _ a f L;simp at L
    |cons b6 G ih=>
     intro X a f L;have a07:=E.len b6 (X b6 σ);rw[a9p,aaQ]at L;split at L;grind[Nat.div_eq_of_lt,Nat.mod_eq_of_lt]
     .rename_i g;obtain⟨b,l9,n0⟩:=ih (λb6 D=>X b6 (by simp[D])) (a - β b6) f L;have Y:a=(a - β b6)+e:=ε;refine⟨b,?_,?_⟩
      .rw[Y,Nat.add_div_right _ m];exact l9
      .rw[Y,Nat.add_mod_right];exact n0
   have a08:β d.flatten=len*e:=by
    rw[<-S];clear l8 Q S T
    induction d with
    |nil=>simp
    |cons b6 d ih=>rw[a9p,Ρ,ih (λb6 D=>F b6 (by simp[D])),E.len b6 (F b6 σ),a7I,a8D,aax,aaO]
   refine⟨_,⟨d,F,ε,rfl⟩,by simp[R.one],fJ.one ?_⟩;have n2:∀a f,d.flatten[a]?=γ f->∃k,h.cell? ⟨y,z+a,η⟩=γ k/\aW (mu h) k f:=λa f L=>by
    grind[Nat.div_add_mod']
   refine aW.J y z len w e (λa=>(h.cell? ⟨y,z+a,η⟩).getD undef) (d.map l) .any m (by simp[S]) l0 ?_ ?_ ?_ ?_ trivial
   .intro b6 D;obtain⟨b,i,rfl⟩:=a7M.1 D;rw[E.cells b (F b i),E.len b (F b i)]
   .intro x j;rw[Q,ab7]at j;obtain⟨b,i,j⟩:=j;obtain⟨c,o,rfl⟩:=a8e i;exact(T c _ (Τ o)).2.1 x j
   .intro a g;have n3:a<β d.flatten:=ε;obtain⟨k,n4,a09⟩:=n2 a _ (Τ n3);show h.cell? _= _;rw[n4];rfl
   grind
def oz(b:Program)(c:TypeId)(h:R->Prop):Prop:=
 ∀ {d:Type} (k:TypeId×Value->d) (a:World) (o:Nat) (p:Nat->Bool) (v:Value) (r:DataW d) (x:List MemPlace),Value.okWide b a .any o c v->DataW.Trod k b a 0 p ζ c v r x->∃f,h f/\aW (mu a) v f
theorem a6O{a:Reach}{v:Value}(b:Cell.okWide q m a e b6 v):v.cells=#[v]:=by
 cases v with
 |agg cs=>simp_all [Cell.okWide,Cell.ok]
 |tuple cs=>rfl
 |_=>rfl
def isRow(a:Option TypeDesc):Bool:=
 match a with
 |some (.struct _)=>ζ
 |some (.array _ _)=>ζ
 |_=>κ
def qE(a:ύ->Prop)(b:R):Prop:=a [b]
def Be(b:ύ->Prop)(c:R):Prop:=∃a,b a/\c=.agg a
def oz.cell{h:ύ->Prop}(b:isRow (q.underlying b6)=κ)(o:cS q b6 h):oz q b6 (qE h):=λp r G x v L P c y=>by
 obtain⟨z,C⟩:=y;obtain⟨D,d,S,a⟩:=o p r 0 x ζ z _ _ C;have E:v.cells=#[v]:=by
  unfold Value.okWide at c;split at c
  .rename_i f;rw[f]at b;cases b
  .rename_i f;rw[f]at b;cases b
  .exact a6O c
 rw[E]at a;have F:=a.1
 match D,F,d,a with
 |[k],_,d,a=>exact⟨k,d,a.2 0 v k rfl rfl⟩
theorem oz.agg{b:Program}{c:TypeId}{h:ύ->Prop}(a:isRow (b.underlying c)=ζ)(r:cS b c h):oz b c (Be h):=λx y T z v k V o C=>by
 obtain⟨D,E⟩:=C;obtain⟨d,F,G,p⟩:=r x y 0 z ζ D _ _ E;have L:∃f,v=.agg f:=by
  unfold Value.okWide at o;split at o;grind;grind
  .rename_i P S;revert a;cases hu:b.underlying c with
   |none=>intro a;cases a
   |some k=>cases k<;>intro a<;>first|exact absurd hu (P _)|exact absurd hu (S _ _)|cases a
 obtain⟨f,rfl⟩:=L;exact⟨.agg d,⟨d,F,rfl⟩,.agg f d G p.Ba.1 p.Ba.2⟩
def ub(a:Program):List TypeId->List (R->Prop)->Prop
 |[],[]=>True
 |b::tk,c::mv=>oz a b c/\ub a tk mv
 |_,_=>False
def uc:List (R->Prop)->ύ->Prop
 |[],a=>a=[]
 |d::mv,a=>∃b c,a=b::c/\d b/\uc mv c
def Jn{p:Program}{y:Type}{z:TypeId×Value->y}{f:World}{C:Nat}{D:Nat->Bool}:∀(a:List TypeId)(mv:List (R->Prop))(c:List Value)(h:List (DataW y))(r:List MemPlace),
  ub p a mv->(∀(k:Nat) b v,a[k]?=γ b->c[k]?=γ v->Value.okWide p f .any C b v)->DataW.TrodAll z p f 0 D ζ a c h r->∃d,uc mv d/\fJ (mu f) c d/\β h=β a
 |[],[],c,h,r,_,_,x=>by
  obtain⟨rfl,rfl,rfl⟩:=trodAll_nil x;exact⟨[],rfl,fJ.nil,rfl⟩
 |b::a,n::mv,c,h,r,E,F,x=>by
  obtain⟨v,L,P,S,T,V,rfl,rfl,rfl,W,e⟩:=trodAll_cons x;obtain⟨G,g,i⟩:=E.1 z f C D v P T (F 0 b v rfl rfl) W;obtain⟨d,j,l,m⟩:=Jn a mv L S V E.2 (λk b v o q=>F (k+1) b v (by trivial) (by trivial)) e;exact⟨G::d,⟨G,d,rfl,g,j⟩,(fJ.one i).append l,by simp[m]⟩
 |[],_:: _,_,_,_,o,_,_=>o.elim
 |_:: _,[],_,_,_,o,_,_=>o.elim
def a6P{a:MemPlace}(b:j4.heap[a.block]?=m.heap[a.block]?):m.sameAt j4 a:=by
 cases a with
 |cell c off=>show j4.cell? _=m.cell? _;have b:j4.heap[c]?=m.heap[c]? :=b;simp only[World.cell?,b]
 |map c=>exact b
theorem Jo{b:Program}{y:Type}{z:TypeId×Value->y}{C D:World}{x:Nat}(E:laidOutB b=ζ)(F:∀c,c<x->D.heap[c]?=C.heap[c]?):∀(d:List TypeId)(k:List Value)(o:List (DataW y))(f:List MemPlace),
  (∀a∈d,b.readableRec a=ζ/\a<b.types.size)->(∀G∈f,G.block<x)->DataW.TrodAll z b C 0 (λ_=>ζ) ζ d k o f->DataW.TrodAll z b D 0 (λc=>decide (c<x)) ζ d k o f
 |[],k,o,f,_,_,h=>by
  obtain⟨rfl,rfl,rfl⟩:=trodAll_nil h;rfl
 |a::d,k,o,f,L,P,h=>by
  obtain⟨v,S,j,T,G,V,rfl,rfl,rfl,W,e⟩:=trodAll_cons h;obtain⟨g,i⟩:=L a σ;refine trodAll_cons_mk (WideElems.Trod_stays E g i W (λp r=>a6P (F _ (P p (a9x _ r)))) (λp r=>by simp_all)) ?_;exact Jo E F d S T V (λa h=>L a (by simp[h])) (λp r=>P p (a9G _ r)) e
theorem a6Q{b:MemPlace->Prop}(c:j4.os=m.os)(d:j4.output=m.output)(f:∀a,a<m.heap.size->j4.heap[a]?=m.heap[a]?):m.keptBut j4 b:=by refine⟨c,d,λh k=>?_⟩;grind
variable{M:Bool}{b9:FuncId}{K:Type}
theorem a6R{G:TypeId×Value->K}{c:Func}{h:ChangeSpec}{m n:Bool}{z:List (R->Prop)}(s:laidOutB q=ζ)(t:∀d∈c.params.toList,q.readableRec d=ζ/\d<q.types.size)
  (L:h.vars=[]) (u:c.resultTypes=#[b6]) (k:q.underlying b6=γ .bool) (w:ub q c.params.toList z) (C:∀a:List (DataW K),β a=β c.params.toList->h.fn K a= {results:=[.lit (.bool ζ)],args:=a,vars:=[]})
  (o:U) (b:World) (A:Holds (mu b) o b) (B:∀f p,o f=γ p->∃D,p=.ro D)
  (H:∀r,uc z r->AC q b9 r o λP _=>P=.v (.bool ζ))
  (I:Nat) (args:Array Value) (a N:List (DataW K)) (O:List MemPlace) (Q:∀(x:Nat) d v,c.params[x]?=γ d->args[x]?=γ v->Value.okWide q b .any I d v)
  (S:DataW.Whole G q c.params.toList h.vars M b args.toList a N O):
  Calls q b9 args b λT V=>∃v,T=.returned v/\h.post G q c M m n κ b args v V:=by
 have W:=S;obtain⟨e,k6,g,i,rfl,_,_⟩:=S;rw[L]at i;obtain⟨rfl,rfl⟩:=trodVars_none i;obtain⟨r,X,Y,E⟩:=Jn _ z _ _ _ w (λx d v j k7=>Q x d v (by simp_all) (by simp_all)) g;have Z:=λk2 k3=>W.lt k2 (a9x _ k3);refine(H r X args b (mu b) Y.Ba A).mono ?_;rintro T V⟨v,P,k8,k9,rfl,y,k4,rfl⟩;have k5:v=.bool true:=by cases k4;rfl
 subst k5;have l:=λf k=>by
  cases F:o f with
  |none=>exact y.block f k F
  |some p=>obtain⟨D,rfl⟩:=B f p F;exact(y.jZ f D k F).1
 refine⟨_,rfl,a,[],e++[],[],e,[],W,?_,?_,?_,a6Q y.os y.output.1 l,λj=>by cases j⟩
 .rw[a8u,C a E,u];exact trodAll_cons_mk (shut_bool k ζ) trodAll_mk0
 .rw[a8u,C a E];exact Jo s l _ _ _ _ t Z g
 .rw[a8u,C a E,L];rfl
def a6S{h:TypeId×Value->K}{a:Func}{f:ChangeSpec}{z C:Bool}{k:List (R->Prop)}(D:laidOutB q=ζ)(E:∀d∈a.params.toList,q.readableRec d=ζ/\d<q.types.size)
  (F:f.vars=[]) (G:a.resultTypes=#[b6]) (L:q.underlying b6=γ .bool) (P:ub q a.params.toList k) (S:∀b:List (DataW K),β b=β a.params.toList->f.fn K b= {results:=[.lit (.bool ζ)],args:=b,vars:=[]})
  (T:∀o,uc k o->AC q b9 o U.emp λV _=>V=.v (.bool ζ))
  (c:World) (p:Nat) (args:Array Value) (b r:List (DataW K)) (x:List MemPlace) (W:∀(y:Nat) d v,a.params[y]?=γ d->args[y]?=γ v->Value.okWide q c .any p d v)
  (e:DataW.Whole h q a.params.toList f.vars M c args.toList b r x):
  Calls q b9 args c λg i=>∃v,g=.returned v/\f.post h q a M z C κ c args v i:=
 a6R D E F G L P S U.emp c (a6L c) (λ_ _ j=>by cases j) T p args b r x W e
open Go
def sl(a:ύ):R:=a.headD (.aJ [])
end Go.bw
namespace Go.Proofs.YtgchlmdfldnhnaaGreat
open Go Go.bw
variable{N j2:Int}
def wf_i64(b:(Lit.int .i64 N).wf=ζ): -9223372036854775808<=N/\N<=9223372036854775807:=by
 have a:IntKind.i64.min<=N/\N<=9223372036854775807:=by simpa[Lit.wf] using b
 have c:IntKind.i64.min= -9223372036854775808:=Μ;rw[c]at a;exact a
def a6T:ua sl (SInt .i64) 1:=⟨by rintro a⟨b,_,rfl⟩;rfl,by rintro a⟨b,_,rfl⟩;rfl⟩
abbrev nr:ύ->Prop:=wM sl (SInt .i64)
variable{j B b7:ύ}
theorem wN(k:nr j):∃f:Ω,bs f/\j=[.J (ab f) .any]:=by
 obtain⟨b,h,o,p⟩:=k;have:∃a:Ω,bs a/\b.map sl=ab a:=by
  clear o p
  induction b with
  |nil=>exact⟨[],(λE r=>by cases r),rfl⟩
  |cons c b ih=>
   obtain⟨a,x,y⟩:=ih λc z=>h c (by simp[z]);obtain⟨C,D,rfl⟩:=h c σ;refine⟨C::a,?_,by simp only[a7O,y];rfl⟩;intro v d;rcases a7S.1 d with rfl|d
   .have:=wf_i64 D;omega
   .exact x v d
 simp_all
def a6U:ua sl px 1:=⟨by rintro a⟨b,_,rfl⟩;rfl,by rintro a⟨b,_,rfl⟩;rfl⟩
abbrev wO:ύ->Prop:=wM sl px
theorem a6V(f:wO j):∃h:List ϊ,j=[.J (bX h) .any]:=by
 obtain⟨a,d,k,o⟩:=f;have:∃b:List ϊ,a.map sl=bX b:=by
  clear k o
  induction a with
  |nil=>exact⟨[],rfl⟩
  |cons c a ih=>obtain⟨b,p⟩:=ih λc r=>d c (by simp[r]);obtain⟨x,y,rfl⟩:=d c σ;exact⟨x::b,by simp only[a7O,p];rfl⟩
 simp_all
abbrev wP:ύ->Prop:=qD [sk,px,wO,nr]
def Jp(b:wP j):∃a:cX,bs a.d.row/\j=a.C:=by obtain⟨_,_,⟨c,rfl⟩,⟨_,_,⟨d,_,rfl⟩,⟨_,_,f,⟨_,_,h,k,rfl⟩,rfl⟩,rfl⟩,rfl⟩:=b;obtain⟨o,rfl⟩:=a6V f;obtain⟨p,r,rfl⟩:=wN h;cases k;exact⟨⟨⟨c,d,o,p⟩,.any,.any⟩,r,rfl⟩
def a6W:ua R.agg wP 4:=⟨λb a=>by obtain⟨c,_,rfl⟩:=Jp a;rfl,λb a=>rfl⟩
abbrev wQ:ύ->Prop:=wM R.agg wP
theorem a6X(o:wQ j):∃d:List cX,(∀f∈d,bs f.d.row)/\β d<=maxLen/\j=[.J (mo d) .any]:=by
 obtain⟨b,k,p,r⟩:=o;have:∃a:List cX,β a=β b/\b.map R.agg=mo a/\∀f∈a,bs f.d.row:=by
  clear p r
  induction b with
  |nil=>exact⟨[],rfl,rfl,λc h=>by cases h⟩
  |cons c b ih=>obtain⟨a,x,y,C⟩:=ih λc h=>k c (by simp[h]);obtain⟨z,D,rfl⟩:=Jp (k c σ);refine⟨z::a,by simp[x],by rw[a7O,y];rfl,?_⟩;grind
 grind
variable{s b8:R}
theorem a6Y(b:qE wQ s):∃a:List cX,(∀c∈a,bs c.d.row)/\β a<=9223372036854775807/\s=.J (mo a) .any:=by obtain⟨a,d,f,h⟩:=a6X b;grind[hm,maxLen,List.cons.inj]
theorem a6Z(b:qE px s):∃a:ϊ,β a<=maxLen/\s=bm a:=by obtain⟨a,c,b⟩:=b;grind
def Jq:cS δ 5 sk:=cS.byte Φ
def Bf:cS δ 9 px:=cS.str Φ
def Jr:cS δ 2 (SInt .i64):=cS.int Φ
def wR:cS δ 24 nr:=cS.slice (e:=1) (by kernel_rfl:δ.underlying 24=γ (.slice 2)) Φ ε a6T Jr
def a7a:cS δ 46 wO:=cS.slice (e:=1) (by kernel_rfl:δ.underlying 46=γ (.slice 9)) Φ ε a6U Bf
def a7b:cS δ 63 wP:=cS.struct (p:=[sk,px,wO,nr]) Tryz.underlying63 (by
 refine⟨by rfl,Jq,by rfl,Bf,by rfl,a7a,by rfl,wR,(by show _= _;rfl)⟩)
def a7c:cS δ 22 wQ:=cS.slice (e:=4) (by kernel_rfl:δ.underlying 22=γ (.slice 63)) Φ ε a6W a7b
abbrev Bg:ύ->Prop:=qD [nr,nr]
abbrev Bh:ύ->Prop:=qD [sk,SInt .i64,nr]
abbrev wS:ύ->Prop:=qD [Bg,Bh,SInt .i64,Bb]
def a7d(b:wS j):∃a:cb,a.In/\j=a.V .any .any .any:=by obtain⟨_,_,⟨_,_,c,⟨_,_,d,f,rfl⟩,rfl⟩,⟨_,_,⟨_,_,⟨h,rfl⟩,⟨_,_,⟨k,_,rfl⟩,⟨_,_,o,p,rfl⟩,rfl⟩,rfl⟩,⟨_,_,⟨r,_,rfl⟩,⟨_,_,⟨x,rfl⟩,y,rfl⟩,rfl⟩,rfl⟩,rfl⟩:=b;obtain⟨z,C,rfl⟩:=wN c;obtain⟨D,E,rfl⟩:=wN d;obtain⟨F,G,rfl⟩:=wN o;cases f;cases p;cases y;exact⟨⟨z,D,⟨h,k,F⟩,r,x⟩,⟨C,E,G⟩,rfl⟩
def a7e(b:Be wS s):∃a:cb,a.In/\s=.agg (a.V .any .any .any):=by obtain⟨d,b,rfl⟩:=b;obtain⟨a,c,rfl⟩:=a7d b;exact⟨a,c,rfl⟩
def a7f(b:qE (SInt .i64) s):∃a:Int,fi a/\s=.v (.int .i64 a):=by obtain⟨a,c,d⟩:=b;have:=wf_i64 c;exact⟨a,ε,by simpa using d⟩
def a7g:cS δ 26 Bg:=cS.struct (p:=[nr,nr]) Tryz.underlying26 (by
 refine⟨by rfl,wR,by rfl,wR,(by show _= _;rfl)⟩)
def a7h:cS δ 28 Bh:=cS.struct (p:=[sk,SInt .i64,nr]) Tryz.underlying28 (by
 refine⟨by rfl,Jq,by rfl,cS.int Φ,by rfl,wR,(by show _= _;rfl)⟩)
def a7i:cS δ 30 wS:=cS.struct (p:=[Bg,Bh,SInt .i64,Bb]) Tryz.underlying30 (by
 refine⟨by rfl,a7g,by rfl,a7h,by rfl,cS.int Φ,by rfl,cS.bool Φ,(by show _= _;rfl)⟩)
end Go.Proofs.YtgchlmdfldnhnaaGreat
namespace Go.Proofs.YtgchlmdfldnhnaaGreat.stateAsks
open Go
def jA:(Rows.stateAsksRow.inPlace==δ.inPlace 3)=true:=Φ
def jB:(Rows.stateAsksRow.unfollowed==δ.unfollowed 3)=true:=Φ
def jC:(Rows.stateAsksRow.named==δ.varsNamed 3)=true:=Φ
def jD:(laidOutB δ&&mapsRowed δ&&Tryz.f3.params.all (δ.readableRec ·)&&namedTie δ Rows.stateAsksRow.named Rows.stateAsksSpec.vars&&(δ.stops==[])&&(δ.stopKnobs==[]))=true:=Φ
def tF:(Rows.stateAsksRow.lifted==δ.liftsFinal)=true:=Φ
def jF:(δ.stopsHeard&&δ.mayEnter&&(δ.make==γ Rows.stateAsksRow.make)&&(Rows.stateAsksRow.pinned==Rows.stateAsksRow.pinnedBy))=true:=Φ
def a7j:joinedFacts δ 3 Tryz.f3 Rows.stateAsksSpec Rows.stateAsksRow=true:=by
 unfold joinedFacts;have d:=jA;have a:=jB;have f:=jC;have b:=jD;have h:=tF;have c:=jF;simp only[Κ]at b c;obtain⟨⟨⟨⟨⟨k,o⟩,p⟩,r⟩,x⟩,y⟩:=b;obtain⟨⟨⟨z,C⟩,D⟩,E⟩:=c;have F:(Rows.stateAsksRow.recurses==δ.recurses 3)=true:=by have G:Rows.stateAsksRow.unfollowed=δ.unfollowed 3:=eq_of_beq a;unfold Program.recurses;rw[<-G];rfl
 rw[d,a,f,k,o,p,r,x,y,h,z,C,D,E,F];decide+kernel
end Go.Proofs.YtgchlmdfldnhnaaGreat.stateAsks
