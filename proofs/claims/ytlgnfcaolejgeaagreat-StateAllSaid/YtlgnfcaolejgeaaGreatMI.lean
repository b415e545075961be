import Derived.Test.YtlgnfcaolejgeaaGreatMH
import Derived.Test.YtlgnfcaolejgeaaGreatMF
import Derived.Test.YtlgnfcaolejgeaaGreatMG
import Derived.Test.YtlgnfcaolejgeaaGreatMD
import Derived.Test.YtlgnfcaolejgeaaGreatME
set_option linter.all false
set_option maxRecDepth 100000
namespace Go.Proofs.YtlgnfcaolejgeaaGreat
open Go Go.bB
def pO {d:U}{b:Nat}: ∀ {h:List (a6.T b)}{a:List R},az (bu d b) h a->flat a=a
 | [],[],_=>rfl
 | _:: _,k::a,c=>by
  obtain⟨o,p,r,rfl,_⟩:=bu.ptr c.1;have:=pO c.2;simp only[flat,a5n]at this|-;rw[this];rfl
variable{n b3:R}{f t e7:U}{e i v M c0 j0:Nat}
def bu.shape {p:a6.T e} (r:bu f e p n): ∃a k b d c,n= .ptr a 0/\f a=some (.cells [.J k b,.J d c])/\k.length+d.length=a6.len p/\(e=0->d= [])/\(e≠0->k= []/\d≠ []):=by
 cases e with
 |zero=>obtain⟨a,x,b,c,rfl,o,h⟩:=r;exact⟨a,x,b,[],c,rfl,o,by rw[h.len];rfl,λ_=>rfl,λe=>absurd rfl e⟩
 |succ e=>obtain⟨a,y,b,c,rfl,o,h,z,_⟩:=r;refine⟨a,[],c,y,b,rfl,o,by rw[h.len];simp[a6.len],λe=>(by cases e),λ_=>⟨rfl,?_⟩⟩;rintro rfl;exact z (az.xN h)
variable{g A e1:List R}
theorem a2t {a:List (a6.T i)} (b:az (bu f i) a g) (o:g≠ []) (p:A.take e=g): ∀c d h k,A≠ [.J c d,.J h k]:=by
 rintro c d h k rfl;cases g with
 |nil=>exact o rfl
 |cons r g=>
  cases a with
  |nil=>exact b.elim
  |cons x a=>
   obtain⟨y,_,_,rfl,_⟩:=bu.ptr b.1;cases e with
   |zero=>cases p
   |succ e=>grind
theorem ar.Ga (b:ar f t 1 g n): ∃a,View t n a (.J g .any)/\f.sub a:=by grind[View.dW,kz,List.take_of_length_le]
theorem bu.rows {a:U}{b:a6.T 0}{c:Nat}{d h:List R}{k o:Own} (p:bu a 0 b (.ptr c 0)) (r:a c=some (.cells [.J d k,.J h o])):az isRow (a6.rows b) d:=by obtain⟨_,_,_,_,x,y,z⟩:=p;simp_all
theorem bu.kids {b:U}{a:Nat}{c:a6.T (a+1)}{d:Nat}{k h:List R}{o p:Own} (r:bu b (a+1) c (.ptr d 0)) (x:b d=some (.cells [.J k o,.J h p])):az (bu b a) (a6.kids c) h:=by obtain⟨_,_,_,_,y,z,a,_⟩:=r;simp_all
variable{N e5 h5:Own}
def rj (a:aN 1 g) (b:flat g=g):bN f 1 (.J g N)=some (g.length,g):=by have:=(jS.J (s:=f) (o:=N) a).src f U.a1;rwa[b]at this
def vt (k:ar t f 1 g (.al e v M 1)) (a:g[i]? =some n):cS 1 (.al e v M 1) (.v (.int .i64 (i:Int)))=some (.ptr e i)/\ ∃b,f.read e=some b/\p3 false 1 i (some b)=some n:=by have y:=(a4R.1 a).1;obtain⟨z,C,D,b,c,E,o,p,d,r,F,G⟩:=k.al (by rintro rfl;simp at a);simp only[R.al.injEq,and_true]at c;obtain⟨rfl,rfl,rfl⟩:=c;rw[a5v]at p d r;have h:=ja (e:=1) (i:=e) (v:=v) (M:=M) (e2:= .i64) (b1:=(i:Int)) a9r a9r;rw[a5i,a5v]at h;refine⟨h,b,U.af o,?_⟩;rw[<-d,a5M a9r]at a;obtain⟨x,rfl⟩:=a4R.1 a;rw[Bx a9r,a5e x];rfl
theorem a2u {a:List (a6.T i)}{b:a6.T i} (p:e<a.length) (d:2<=a.length) (o: ¬2<=a6.len b):
  ∃h k,(a.set e b)[e - 1]? =some h/\(a.set e b)[e - 1+1]? =some k/\a6.lr a e b=(a.set e b).take (e - 1)++a6.kE h k++(a.set e b).drop (e - 1+2):=by
 rw[a6.lr,if_neg o];by_cases c:e=0
 .subst c;refine⟨b,a[1],a8U a9r,by simp[a4J d],?_⟩;rw[if_pos rfl,a4J d,a9j a9r];rfl
 .refine⟨a[e - 1],b,by grind,by grind,?_⟩;rw[if_neg c,a4J a9r,a9j a9r,List.take_set_of_le a9r];simp[c]
set_option maxHeartbeats 1000000 in
theorem a2v (r:1<=e) (n:e<=8) (i:List Int) (b:Own) (o:bO e i): ∀(a:Nat) (p:a6.T a) (m:R) (h:U),bu h a p m->GT e a p->
  AC Tryz.prog 95 [m,.J (ad i) b] h λt c=>h.sub c/\bu c a (a6.cN bz i a p) t:=by
 have d:=o.len;intro a
 induction a with
 |zero=>intro p m h k e;exact a2s i b p m h k e n
 |succ a ih=>
 intro p m h k e;obtain⟨d,rfl⟩:=a6.gw p;have j:=e.kids r n o;have H:=El d m i b h k a9r λb q=>by
  obtain⟨l,_,f,g⟩:=j.hf b q;have:=l.dI;have:=g.len;exact⟨a9r,f,a9r⟩
 obtain⟨f,C,f,f,rfl,D,f,_,_⟩:=k;rw[a6.fh]at f;have g:=f.len;obtain⟨s,g⟩:=j.two;obtain⟨b,q⟩:=j.at_;have g:a6.cN bz i (a+1) (a6.node d)=a6.node (a6.lr d (a6.cW bz i (d.map (a6.cT a))) (a6.cN bz i a b)):=by simp only[a6.cN,a6.fh];rw[q]
 obtain⟨_,_,u,v⟩:=a6.px (gz r n) o (a+1) (a6.node d) e.wf e.ea e.ok;rw[g,a6.dG,a6.dG]at u;rw[g,a6.dG]at v;rw[g];rw[j.Em]at H;clear g;generalize a6.cW bz i (d.map (a6.cT a))=g at*;have W:=(a4R.1 q).1;obtain⟨l,u,_,_⟩:=j.hf b (a4Q q);obtain⟨_,_,k2,k3⟩:=a6.px (gz r n) o a b l.wf l.ea l.ok;have X:=λm h k=>ih b m h k l;have k4: ∀b∈d,a6.len b<=4:=λb q=>(a6.hc.1 (j.hf b q).2.1).2.1;have k5:=(a6.hc.1 u).1;have I:=a2u (b:=a6.cN bz i a b) W s;have K:2<=a6.len (a6.cN bz i a b)->a6.lr d g (a6.cN bz i a b)=d.set g (a6.cN bz i a b):=λa=>by rw[a6.lr,if_pos a]
 clear j e;generalize a6.lr d g (a6.cN bz i a b)=L at*;generalize a6.cN bz i a b=y at*;refine AC.view (s:=λt c=> ∃e i k l r,t= .ptr e 0/\h e=none/\h i=none/\e≠i/\c e=some (.cells [.J [] .nil,.al i k l 1])/\(∃n,c i=some (.cells n)/\k<=n.length/\n.take k=r)/\az (bu c a) L r/\h.sub c) ?_ ?_;rotate_left
 .rintro t c ⟨e,i,k,l,r,rfl,o,s,j,E,⟨n,v,u,u⟩,z,A⟩;have w:r≠ []:=by rintro rfl;grind[az.xN]
  refine⟨_,_,View.obj (A:= [.J [] .nil]) (e1:= []) E v a9r j,?_,e,_,.any,.nil,rfl,U.ah _ _ _,?_,?_,by rw[a6.fh];omega⟩
  .intro x Y j;have B:x≠e:=by rintro rfl;rw[o]at j;cases j
   have w:x≠i:=by rintro rfl;rw[s]at j;cases j
   rw[U.an _ _ B,U.an _ _ w];exact A _ _ j
  .rw[a6.fh,kz,u];refine z.mono λ_ _=>bu.vs λu k6 k7 k8 Y z=> ?_;have F:u≠e:=by rintro rfl;rw[E]at z;simp at z
   have M:u≠i:=by rintro rfl;grind[a2t,bq.cells.inj,Option.some.inj]
   rw[U.an _ _ F,U.an _ _ M];exact z
  grind[a6.fh]
 have k9:=U.af D;have j: ¬(d.length:Int)=0:=a9r;have N:=bu.c f;refine aO hm Bm ?_;refine cl H ?_;rintro _ O ⟨A,rfl⟩;have l0:=rd A D;have P:=f.mono λ_ _=>bu.mono A;refine u3 (rj N (pO f)) λj G B=> ?_;obtain⟨s,k,l,j,rfl,w,Z,l1,l2,l3,j,j⟩:=ar.al B (by grind);obtain rfl:k=d.length:=a9r;have j:=B.1;have l4:=rd (U.aq A j) D;obtain⟨_,V,Q⟩:=P.get q;obtain⟨l5,_,_,rfl,_⟩:=Q.ptr;refine cl (X _ G (bu.mono j Q)) ?_;rintro t G ⟨t,S⟩;obtain⟨w,_,_,rfl,_⟩:=S.ptr;obtain⟨T,j9,k0,-,j⟩:=ar.put (i:=g) (a:= .ptr w 0) (by rw[pO P];exact B.mono t:ar O G 1 (flat C) (.al s d.length l 1)) a9r N V rfl;have l6:=(vt (B.mono t) V).1;have l7:=U.aJ j9;rw[a5v]at j k0;have aI:T.take d.length=C:=by have u:=t _ _ Z;simp_all
 obtain⟨t,V⟩: ∃t,G.set s (.cells (putAt T g [.ptr w 0]))=t:=⟨_,rfl⟩;have k1:zI G t:=λu k6 k7 k8 Y z=>by
  have M:u≠s:=by grind
  rw[<-V,U.an _ _ M];exact z
 change ar O (G.set s (.cells (putAt T g [.ptr w 0]))) 1 _ _ at j;rw[V]at j;have u:=az.set g (P.mono λ_ _ E=>bu.mono j.1 E) (bu.vs k1 S);rw[pO u]at j;have z:=u.len;rw[a7m,a7m]at z;have M:(C.set g (.ptr w 0))[g]? =some (.ptr w 0):=a8U a9r;have P:(d.set g y)[g]? =some y:=by simp[W]
 clear aI k1 S f N k9 l0 l4 Z l1 l2 l3 B;generalize z:d.set g y=B at*;generalize C.set g (.ptr w 0)=N at*;have C:B.length=d.length:=by rw[<-z,a7m]
 have S:=U.aq A j.1;have z: ∀b∈B,a6.len b<=4:=λb q=>by
  grind
 obtain⟨q,Y,Z⟩:=(vt j M).2;obtain⟨C,ch,k1,T,B,q,W,k6,_,_⟩:=(u.get P|>.elim λm a=>by simp_all:bu t a y (.ptr w 0)).shape;obtain rfl:w=C:=by simpa using q
 clear q X ih H;have X:=U.af W;have H: ∀(C c:U) (r:List R) (q:R) (e:Nat),h.sub C->ar C c 1 r q->az (bu c a) L r->c e=none->
   ∃w i k l E,R.ptr e 0= .ptr w 0/\h w=none/\h i=none/\w≠i/\(c.set e (.cells [.J [] .nil,q])) w=some (.cells [.J [] .nil,.al i k l 1])/\(∃n,(c.set e (.cells [.J [] .nil,q])) i=some (.cells n)/\k<=n.length/\n.take k=E)/\az (bu (c.set e (.cells [.J [] .nil,q])) a) L E/\h.sub (c.set e (.cells [.J [] .nil,q])):=λC c r q e w C f o=>by
  have E:=U.ae (Y:= .cells [.J [] .nil,q]) U.a1 o;obtain⟨i,k,l,n,rfl,G,q,h,L,h,h,_⟩:=C.al (λh=>by grind[az.xN]);exact⟨e,i,k,l,r,rfl,U.bG (U.aq w C.1) o,U.bG w G,(λh=>by rw[h,q]at o;cases o),U.ah _ _ _,⟨n,E _ _ q,a9r,by rwa[a5v]at L⟩,f.mono λ_ _ a=>bu.mono E a,U.aq w (U.aq C.1 E)⟩
 by_cases c2:2<=a6.len y
 .have aI:(1:Int)<(ch.length:Int)+(T.length:Int):=a9r;obtain rfl:=K c2;clear K I;have k7:=fL j;refine aa ?_;refine br λe o=> ?_;exact⟨_,U.a1,H O t N _ e A j u o⟩
 obtain⟨L,O,q,n,rfl⟩:=I c2;have aI: ¬(1:Int)<(ch.length:Int)+(T.length:Int):=a9r;clear K c2 I;refine aa ?_;clear aI W k6 X Z Y M P l6 l7 j9 k0;refine o6 [0,7,8] (λ_:Unit=> [(9,.v (.int .i64 ((g - 1:Nat):Int)))]) (λ_ c=>c=t) (λb=> ?_) (λb=> ?_) ?_
 .have b:=of_decide_eq_true b;have h:((g - 1:Nat):Int)=0:=a9r;exact aU
 .have b:=of_decide_eq_false b;have h:(g:Int) - 1=((g - 1:Nat):Int):=a9r;exact aU
 clear V;rintro _ t rfl I;generalize g - 1=g at*;have b:=(a4R.1 n).1;have b:=z _ (a4Q q);have b:=z _ (a4Q n);obtain⟨_,b,r⟩:=u.get q;obtain⟨_,y,w⟩:=u.get n;obtain⟨k,k,k,k,k,rfl,k,A,_,_⟩:=r.shape;obtain⟨i,i,i,cc,i,rfl,v,i,_,_⟩:=w.shape;obtain⟨i,A,A,A,A,h,A,_,K,C⟩:=(bu.mono j.1 Q).shape;obtain rfl:l5=i:=by simpa using h
 obtain⟨i,i,E,i⟩:=vt j b;obtain⟨i,b,b,M⟩:=vt j y;have i:cS 1 (.al s d.length l 1) (.v (.int .i64 ((g:Int)+1)))=some (.ptr s (g+1)):=i;have i:=U.af A;have i:=rd S D;rw[E]at b;obtain rfl:=a4I b;clear h b z k2 k3 k4 k5 q n;refine aa ?_;refine o6 [8,9] (λx:List R×Own=> [(12,.J x.1 x.2)]) (λx c=>t.sub c/\az (bu c a) (a6.kE L O) x.1) (λds=> ?_) (λds=> ?_) ?_
 .have ds:=of_decide_eq_true ds;cases a with
  |succ a=>exact absurd (a4P a9r) (C a9r).2
  |zero=>have f:=r.rows k;have b:=w.rows v;have M:=f.len;have P:=b.len;have x:=U.af k;have y:=U.af v;refine u3 (rj (iL f) (nj f)) λa5 Q h=> ?_;have x:=rd h.1 k;have y:=rd h.1 v;refine qC h (rj (iL b) (nj b)) λdx T z=> ?_;obtain⟨A,C,i⟩:=ar.Ga z;refine cl (AC.nn (g:= []) C (Ef _ _ .any A (f.append b) (by rw[a4L];omega))) ?_;rintro _ D ⟨E,n,q,rfl,c⟩;refine aa ?_;exact⟨(n,q),⟨U.aq i E,c⟩,rfl⟩
 .have ds:=of_decide_eq_false ds;cases a with
  |zero=>exact absurd (by rw[K rfl];rfl) ds
  |succ a=>have f:=r.kids k;have b:=w.kids v;have M:=f.len;have P:=b.len;have x:=U.af k;have y:=U.af v;refine u3 (rj (bu.c f) (pO f)) λa5 Q h=> ?_;have x:=rd h.1 k;have y:=rd h.1 v;refine qC h (rj (bu.c b) (pO b)) λdx T z=> ?_;obtain⟨A,C,i⟩:=ar.Ga z;refine cl (AC.nn (g:= []) C (xZ t _ _ .any A (f.append b) (by rw[a4L];omega) i)) ?_;rintro _ D ⟨E,n,q,rfl,c⟩;refine aa ?_;exact⟨(n,q),⟨U.aq i E,c⟩,rfl⟩
 rintro⟨n,q⟩ D ⟨f,c⟩ I
 dsimp only at c|-
 have b:=c.len;have b:(a6.kE L O).length<=4:=by grind
 have b:=j.mono f;have h:=u.len;have k1:=hQ (e:=1) (M:=s) (c0:=d.length) (i:=l) (v:=g) (e2:= .i64) a9r;obtain⟨i,i,i,_⟩:=(b.first (i:=g) a9r).src;obtain⟨_,_,_,j,F,_,j,k,k,_,_,_⟩:=b.al (by rintro rfl;simp at h;omega);simp only[R.al.injEq,and_true]at F;obtain⟨rfl,rfl,rfl⟩:=F;refine u3 i (λb b b=> ?_) (x:=by rw[a4N];omega);refine qC b (rj (bu.c c) (pO c)) (λb i h=> ?_) (y:=by rw[a4N];omega);obtain⟨G,B,_,b⟩:=ow (i:=1) (j0:=s) (M:=d.length) (c0:=l) (e:=g+2) (e2:= .i64) a9r a9r;have b:=b i _ N (h.1 _ _ j) a9r k;rw[a5v]at b;have B:c8 1 (.al s d.length l 1) (some (.v (.int .i64 ((g:Int)+2)))) none none=some G:=B;refine qC h b (λb h b=> ?_) (x:=by rw[a4X];omega) (y:=by grind);have k7:=fL b;have d:=λ{p:a6.T a}{m:R}=>bu.mono (t:=p) (a:=m) (U.aq f b.1);refine aa ?_;refine br λe o=> ?_;rw[a5v]at b;exact⟨_,U.a1,H D h _ _ e (U.aq S f) b ((((u.take g).mono λ_ _ a=>d a).append (c.mono λ_ _ a=>bu.mono b.1 a)).append ((u.drop (g+2)).mono λ_ _ a=>d a)) o⟩
variable{O:List (List Int)}
def zJ:(dA 0 (a6.leaf O)).rows.map Prod.fst=O:=by rw[Zm];show(O.map λa=>(a,true)).map Prod.fst=O;rw[a6L];exact List.map_id' O
def Gb:(dA 0 (a6.leaf O)).kind=2:=rfl
def zK {a:a6.T (e+1)}: ¬(dA (e+1) a).kind=2:=by show¬(3:UInt8)=2;decide
def Gc (c:1<=i) (d:i<=8) {a:List (a6.T e)} (h:fa i (e+1) (a6.node a)) (b:List Int):hA b (dA (e+1) (a6.node a))=a6.cW bz b (a.map (a6.cT e)):=by unfold hA;rw[y7];congr 1;show(a.map (bY e)).map (·.key)= _;rw[a6L];exact a6r λk o=>Zp c d (h.hf k o).1
def Gd {a:List (a6.T e)}:(dA (e+1) (a6.node a)).kids[i]? =a[i]?.map (bY e):=by rw[y7];show(a.map (bY e))[i]? = _;rw[a5l]
variable{q b6:List Int}
theorem Ge (r:1<=i) (x:i<=8) {a:List (a6.T e)} (c:GT i (e+1) (a6.node a)) (y:bO i q) {b:a6.T e} (d:a[a6.cW bz q (a.map (a6.cT e))]? =some b):q∈a6.bc (e+1) (a6.node a)↔q∈a6.bc e b:=by obtain⟨h,D,z,E⟩:=c.wf;rw[a6.dG]at h;have F: ∀b∈a,a6.WF e b:=z;have k:=c.ea;have o:=c.ok;rw[a6.fO]at k o|-;obtain⟨G,p,L,P⟩:=a6.uE (gz r x) y (a:=a) (by intro C;subst C;simp at h) (λb d=>by grind[a6.hc]) k o;rw[d]at p;obtain rfl:=a4I p;have S:=a6.qS d;grind[a6.cW,bz,a6.cT,sO]
theorem Gf {m:Nat} (h:1<=m) (i:m<=8) {c:List Int} (k:bO m c): ∀(a:Nat) (d:a6.T a) (l:ag) (o:Nat),GT m a d->gB l a d->a<o->c∉a6.bc a d->Laid l a (a6.eP bz c a d) (gx m c o l (bY a d))
 |0,d,l,o+1,e,p,_,r=>by
  obtain⟨b,rfl⟩:=a6.ia d;obtain⟨f,g,_⟩:=e.wf;rw[a6.hz]at f g;have q:=e.ok;have s:(dA 0 (a6.leaf b)).rows.map Prod.fst=b:=zJ;rw[gx,qV h i e.jW p];simp only;rw[if_pos Gb,s,ye (O:=b) h i e.ea q k,decide_eq_false (p:=c∈b) r,if_neg a9v,Zs (O:=b) h i e.ea q k];exact Eu h i l (a6.dR bz b c) (by rw[a6.ov];omega) (by rw[a6.ov];omega) λn f=>by
   rcases a6.sJ.1 f with rfl|f
   .exact k
   .exact q n f
 |a+1,d,l,o+1,e,p,b,r=>by
  obtain⟨b,rfl⟩:=a6.gw d;have t:=e.kids h i k;obtain⟨d,g⟩:=t.at_;have u:=a4Q g;have v:c∉a6.bc a d:=λj=>r ((Ge h i e k g).2 j);obtain⟨r,r⟩:=t.two;have r:=(t.hf d u).1;obtain⟨w,t,t,t⟩:=a6.qT (gz h i) k a d r.wf r.ea r.ok v;have ih:=Gf h i k a d l o r (p.2 d u) a9r v;rw[gx,qV h i e.jW p];simp only;rw[if_neg zK,Gc h i e.jW,Gd,g];simp only[a5O];have t:a6.eP bz c (a+1) (a6.node b)=(a6.chunks (b.take (a6.cW bz c (b.map (a6.cT a)))++a6.eP bz c a d++b.drop (a6.cW bz c (b.map (a6.cT a))+1))).map a6.node:=by simp only[a6.eP,a6.fh];rw[g]
  rw[t];clear t;have t:=(a4R.1 g).1;have t:=a6.qS g;generalize a6.cW bz c (b.map (a6.cT a))=g at*;generalize gx m c o l (bY a d)=n at*;obtain⟨l,u⟩:=n;obtain⟨o,l,t⟩:=ih;simp only at o l t;subst o;simp only;have s:(dA (a+1) (a6.node b)).kids.take g++((a6.eP bz c a d).map (bY a)++(dA (a+1) (a6.node b)).kids.drop (g+1))=(b.take g++a6.eP bz c a d++b.drop (g+1)).map (bY a):=by rw[y7];show(b.map (bY a)).take g++(_++(b.map (bY a)).drop (g+1))= _;simp
  rw[s];have o: ∀n∈(b.take g++a6.eP bz c a d++b.drop (g+1)).flatMap (a6.bc a),bO m n:=λn f=>by
   rw[a5F,a5F,w,a5c,a5c]at f;have q:=e.ok;rw[a6.fO]at q;rcases f with (f|f)|f;grind
   .rcases a6.sJ.1 f with rfl|f
    .exact k
    .exact r.ok n f
   grind
  have f:((b.take g++a6.eP bz c a d++b.drop (g+1)).flatMap (a6.bc a)).length=(a6.bc (a+1) (a6.node b)).length+1:=by grind[a6.fO,List.length_append,a6.ov]
  have k:=e.dI;have k: ∀d∈b,a6.WF a d:=e.wf.2.2.1;have:=yb h i u (b.take g++a6.eP bz c a d++b.drop (g+1)) (by grind) (by grind) (λa j=>by
   grind) o (by rw[f];omega) (λb b c a j=>by
   simp only[a5c]at j;rcases j with (j|j)|j
   .exact(p.2 a (a5b j)).mono (l.trans b)
   .exact(t (b.zero c) a j).mono b
   .exact(p.2 a (a5p j)).mono (l.trans b))
  exact⟨this.ok,l.trans this.le,this.ins⟩
def hI:eH->ay
 |none=>aA
 |some ⟨a,b⟩=>bY a b
def mu (a:ag):eH->Prop
 |none=>True
 |some ⟨b,c⟩=>gB a b c
def mu.mono {a b:ag} (c:a.le b) {t:eH} (d:mu a t):mu b t:=by
 match t with
 |none=>trivial
 |some ⟨_,_⟩=>exact gB.mono c d
structure pP (a:ag) (t:eH) (r:Except Int ay×ag):Prop where
 ok:r.1= .ok (hI t)
 le:a.le r.2
 ins:r.2.one=false->mu r.2 t
variable{H:ag}
theorem a2w (F:1<=i) (G:i<=8) {r:ag}{a:List (a6.T e)} (L:1<=a.length) (P:a.length<=2) (k:Laid r e a (.ok (a.map (bY e)),H)) (S: ∀b∈a,a6.WF e b) (T: ∀o∈a.flatMap (a6.bc e),bO i o) (V:(a.flatMap (a6.bc e)).length<=1048576):
  pP r (py a) (ib i ((a.map (bY e)).length+1) H (a.map (bY e))):=by
 match a,L,P with
 | [b],_,_=>
  have p:ib i (([b].map (bY e)).length+1) H ([b].map (bY e))=(.ok (bY e b),H):=by rw[ib];rfl
  rw[p];exact⟨rfl,k.le,λc=>k.ins c b a9s⟩
 | [d,h],_,_=>
  have x:=yb F G H [d,h] a9s a9s S T V (λg y c W f=>(k.ins (y.zero c) W f).mono y);rw[a6.pt a9s a9s]at x;rw[ib,if_pos a9s];generalize ji H i ([d,h].map (bY e))=o at*;obtain⟨j,z⟩:=o;obtain⟨C,D,E⟩:=x;simp only at C D E;subst C;simp only;have p:ib i (([d,h].map (bY e)).length) z (([[d,h]].map a6.node).map (bY (e+1)))=(.ok (bY (e+1) (a6.node [d,h])),z):=by grind[ib]
  rw[p];exact⟨rfl,k.le.trans D,λc=>E c _ a9s⟩
variable{b7:eH}
def a2x (c:1<=e) (d:e<=8) (h:bO e q) (D:iN e b7) (E:mu H b7) (F:q∉eA b7):pP H (kK b7 q) (iJ e q H (hI b7)):=by
 match b7 with
 |none=>have G:=uF c d (O:= [q]) a9s a9s (by simpa using h);unfold iJ;show pP H _ (if aA=aA then _ else _);rw[if_pos rfl,oA G.oz];exact⟨rfl,lv _ _,λL=>qU L⟩
 |some ⟨a,b7⟩=>
  have b:GT e a b7:=D;have o:q∉a6.bc a b7:=F;have y:=uG c d b.jW;have g:=fa.high a b7 b.jW;have i:=y.size;have j:=b.dI;have P:=Gf c d h a b7 H ((bY a b7).size.toNat+1) b E a9r o;obtain⟨z,S,T,V⟩:=a6.qT (gz c d) h a b7 b.wf b.ea b.ok o;have p:kK (some ⟨a,b7⟩) q=py (a6.eP bz q a b7):=by simp only[kK];rw[if_neg o]
  rw[p];unfold iJ;show pP H _ (if bY a b7=aA then _ else(match gx e q ((bY a b7).size.toNat+1) H (bY a b7)with|(.error p,r)=>(.error p,r)|(.ok bJ,r)=>ib e (bJ.length+1) r bJ));rw[if_neg y.ne];generalize gx e q ((bY a b7).size.toNat+1) H (bY a b7)=x at*;obtain⟨l,m⟩:=x;obtain⟨C,W,f⟩:=P;simp only at C;subst C;simp only;refine a2w c d T V ⟨rfl,W,f⟩ S (λx k=> ?_) (by rw[z,a6.ov];omega);rw[z]at k;rcases a6.sJ.1 k with rfl|k
  .exact h
  .exact b.ok x k
theorem a2y (y:1<=e) (z:e<=8) (d:bO e q) (P:iN e b7) (S:(eA b7).length<1000):iN e (kK b7 q)/\(eA (kK b7 q)).length<=(eA b7).length+1:=by
 match b7 with
 |none=>
  refine⟨⟨⟨?_,?_,trivial,λa=>by omega⟩,?_,?_,?_⟩,?_⟩
  .simp[a6.hz]
  .simp[a6.hz]
  .rw[a6.kD];simp
  .rw[a6.kD];simpa using d
  .rw[a6.kD];simp
  .show(a6.bc 0 (a6.leaf [q])).length<= _;rw[a6.kD];simp
 |some ⟨a,b7⟩=>
  have c:GT e a b7:=P;have W:(a6.bc a b7).length<1000:=S;simp only[kK];by_cases o:q∈a6.bc a b7;simp_all;rw[if_neg o];obtain⟨h,k,T,V⟩:=a6.qT (gz y z) d a b7 c.wf c.ea c.ok o;have C:=a6.Yv (gz y z) c.ea c.ok d o;have D: ∀p∈a6.dR bz (a6.bc a b7) q,bO e p:=λp r=>by
   rcases a6.sJ.1 r with rfl|r
   .exact d
   .exact c.ok p r
  have f:=a6.ov (lt:=bz) (h9:=a6.bc a b7) (h2:=q);generalize a6.dR bz (a6.bc a b7) q=E at*
  match F:a6.eP bz q a b7,T,V with
  | [x],_,_=>
   rw[F]at h k;have b:a6.bc a x=E:=by rw[<-h];simp
   refine⟨⟨a6.jR.of (k x a9s),by rw[b];exact C,by rw[b];exact D,by rw[b];omega⟩,?_⟩;show(a6.bc a x).length<=(a6.bc a b7).length+1;rw[b];omega
  | [G,L],_,_=>
   rw[F]at h k;have b:a6.bc (a+1) (a6.node [G,L])=E:=by rw[a6.fO,h]
   refine⟨⟨⟨by rw[a6.dG];simp,by rw[a6.dG];simp,k,λ_=>by rw[a6.dG];simp⟩,by rw[b];exact C,by rw[b];exact D,by rw[b];omega⟩,?_⟩;show(a6.bc (a+1) (a6.node [G,L])).length<=(a6.bc a b7).length+1;rw[b];omega
def eI:(a:Nat)->a6.T a->ic
 |0,b=>⟨true,a6.rows b,[]⟩
 |a+1,b=>⟨false,[],(a6.kids b).map (bY a)⟩
def oM (b:ag):(a:Nat)->a6.T a->Prop
 |0,_=>True
 |a+1,c=> ∀d∈a6.kids c,gB b a d
def oM.mono {b c:ag} (h:b.le c): ∀ {a:Nat}{d:a6.T a},oM b a d->oM c a d
 |0,_,_=>trivial
 | _+1,_,a=>λk o=>gB.mono h (a k o)
def gB.p: ∀ {a:Nat}{b:a6.T a},gB H a b->oM H a b
 |0,_,_=>trivial
 | _+1,_,a=>a.2
def a2z: ∀ {b:Nat}{a:a6.T b},(eI b a).rows.length+(eI b a).kids.length=a6.len a
 |0,a=>rfl
 |b+1,a=>by show 0+((a6.kids a).map (bY b)).length= _;rw[a4V,a5g];rfl
def Gg: ∀ {b:Nat}{a:a6.T b},fP (dA b a)=eI b a
 |0,a=>by
  obtain⟨c,rfl⟩:=a6.ia a;unfold fP;rw[zJ];rfl
 |b+1,a=>rfl
def zL: ∀ {h:Nat}{t:a6.T h},mh H e (eI h t).leaf (eI h t).rows (eI h t).kids=dv H e (dA h t)
 |0,t=>rfl
 |h+1,t=>rfl
theorem Gh (C:1<=e) (D:e<=8) (k:ag): ∀ {c:Nat} (a b:a6.T c),a6.lq c a->a6.lq c b->2<=a6.len a+a6.len b->a6.len a+a6.len b<=5->(∀d∈a6.bc c a,bO e d)->(∀d∈a6.bc c b,bO e d)->
  (a6.bc c a).length+(a6.bc c b).length<=1048576->(∀h,k.le h->h.one=false->oM h c a/\oM h c b)->Laid k c (a6.kE a b) (kG k e (eI c a) (eI c b))
 |0,a,b,_,_,p,r,x,y,_,_=>by
  obtain⟨a,rfl⟩:=a6.ia a;obtain⟨b,rfl⟩:=a6.ia b;rw[a6.hz,a6.hz]at p r;exact Eu C D k (a++b) (by rw[a4L];omega) (by rw[a4L];omega) λd E=>(a5c.1 E).elim (x d) (y d)
 |c+1,a,b,bQ,cw,p,r,x,y,F,G=>by
  obtain⟨a,rfl⟩:=a6.gw a;obtain⟨b,rfl⟩:=a6.gw b;rw[a6.dG,a6.dG]at p r;rw[a6.fO]at x y F;rw[a6.fO]at F;have:=yb C D k (a++b) (by rw[a4L];omega) (by rw[a4L];omega) (λo z=>(a5c.1 z).elim (bQ o) (cw o)) (λd E=>by
   grind) (by simp_all) (λh L P o z=>(a5c.1 z).elim ((G h L P).1 o) ((G h L P).2 o))
  rw[a5P]at this;exact this
theorem a2A (C:1<=i) (D:i<=8) (o:ag) {d:List (a6.T e)}{c:a6.T e} (m:v<d.length) (B:2<=d.length) (z: ∀b∈d,fa i e b/\a6.WF e b/\gB o e b) (H:1<=a6.len c) (n:a6.len c<=4) (V:a6.lq e c)
  (W: ∀E∈a6.bc e c,bO i E) (q: ∀b∈d,(a6.bc e b).length+(a6.bc e c).length<=1048576) (f: ∀r,o.le r->r.one=false->oM r e c):Laid o e (a6.lr d v c) (jU o i (d.map (bY e)) v (eI e c)):=by
 unfold jU a6.lr;rw[a2z];have s:(a6.bc e c).length<=1048576:=by have:=q _ (a5o m);omega
 by_cases F:2<=a6.len c
 .rw[if_pos F,if_pos F,zL];have t:a6.WF e c:=a6.hc.2 ⟨F,n,V⟩;have u:=(nr C D e c (Et t W s)).1;rw[oA u.oz];simp only;refine⟨?_,lv _ _,λk b a=> ?_⟩
  .rw[<-sP,List.map_set]
  .rcases a6Y a with a|rfl
   .exact(z b a).2.2.mono (lv _ _)
   .have G:=qU k;have T:=f _ (lv o (dc (dA e b))) k
    match e,b,G,T with
    |0,b,G,T=>exact G
    |e+1,b,G,T=>exact⟨G,T⟩
 .rw[if_neg F,if_neg F];have I:a6.len c=1:=a9r;by_cases l:v=0
  .subst l;simp only[if_true];have x:d[1]? =some d[1]:=a4J a9r;rw[a5l,x];generalize d[1]=y at x;have h:=z y (a4Q x);have g:=a6.hc.1 h.2.1;simp only[a5O];rw[qV C D h.1 h.2.2];simp only;rw[Gg];have j:=Gh C D o c y V g.2.2 a9r a9r W h.1.ok (by grind) (λr L k=>⟨f r L k,(h.2.2.mono L).p⟩);generalize kG o i (eI e c) (eI e y)=E at*;obtain⟨w,A⟩:=E;obtain⟨P,p,S⟩:=j;simp only at P p S;subst P;simp only;refine⟨a9s,p,λk b a=> ?_⟩;simp only[a5c]at a;rcases a with (a|a)|a;simp_all
   .exact S k b a
   .exact(z b (a5p a)).2.2.mono p
  .simp only[if_neg l];have x:d[v - 1]? =some d[v - 1]:=a4J a9r;rw[a5l,x];generalize d[v - 1]=y at x;have h:=z y (a4Q x);have g:=a6.hc.1 h.2.1;simp only[a5O];rw[qV C D h.1 h.2.2];simp only;rw[Gg];have j:=Gh C D o y c g.2.2 V a9r a9r h.1.ok W (by grind) (λr L k=>⟨(h.2.2.mono L).p,f r L k⟩);generalize kG o i (eI e y) (eI e c)=E at*;obtain⟨w,A⟩:=E;obtain⟨P,p,S⟩:=j;simp only at P p S;subst P;simp only;refine⟨a9s,p,λk b a=> ?_⟩;simp only[a5c]at a;rcases a with (a|a)|a
   .exact(z b (a5b a)).2.2.mono p
   .exact S k b a
   .exact(z b (a5p a)).2.2.mono p
structure a2B (a:ag) (h:Nat) (t:a6.T h) (r:Except Int ic×ag):Prop where
 ok:r.1= .ok (eI h t)
 le:a.le r.2
 ins:r.2.one=false->oM r.2 h t
theorem Gi {h:Nat} (c:1<=h) (d:h<=8) {b:List Int} (j:bO h b): ∀(a:Nat) (f:a6.T a) (i:ag) (k:Nat),GT h a f->gB i a f->a<k->b∈a6.bc a f->a2B i a (a6.cN bz b a f) (ie h b k i (bY a f))
 |0,f,i,k+1,e,n,_,m=>by
  obtain⟨g,rfl⟩:=a6.ia f;have p:(dA 0 (a6.leaf g)).rows.map Prod.fst=g:=zJ;rw[ie,qV c d e.jW n];simp only;rw[if_pos Gb,p,ye (O:=g) c d e.ea e.ok j,decide_eq_true (p:=b∈g) m,if_pos rfl,Zt (O:=g) c d e.ea e.ok j m];exact⟨rfl,ag.le_refl,λ_=>trivial⟩
 |a+1,f,i,k+1,e,n,g,m=>by
  obtain⟨g,rfl⟩:=a6.gw f;have l:=e.kids c d j;obtain⟨f,o⟩:=l.at_;have q:=a4Q o;have r:=(Ge c d e j o).1 m;obtain⟨s,m⟩:=l.two;obtain⟨m,t,_,_⟩:=l.hf f q;have u:=a6.hc.1 t;obtain⟨t,u,v,v⟩:=a6.px (gz c d) j a f m.wf m.ea m.ok;have ih:=Gi c d j a f i k m (n.2 f q) a9r r;rw[ie,qV c d e.jW n];simp only;rw[if_neg zK,Gc c d e.jW,Gd,o];simp only[a5O];have e:a6.cN bz b (a+1) (a6.node g)=a6.node (a6.lr g (a6.cW bz b (g.map (a6.cT a))) (a6.cN bz b a f)):=by simp only[a6.cN,a6.fh];rw[o]
  rw[e];clear e;have r:=(a4R.1 o).1;generalize a6.cW bz b (g.map (a6.cT a))=j at*;generalize ie h b k i (bY a f)=e at*;obtain⟨w,k⟩:=e;obtain⟨o,i,q⟩:=ih;simp only at o i q;subst o;simp only;have o:=m.dI;have o:(a6.bc a (a6.cN bz b a f)).length<=1000:=by grind
  have o:=a2A c d k (d:=g) (v:=j) (c:=a6.cN bz b a f) r s (λc d=>⟨(l.hf c d).1.jW,(l.hf c d).2.1,(n.2 c d).mono i⟩) a9r v u (λe n=>by
   rw[t]at n;exact m.ok e (a7P.1 n).1) (λc d=>by have:=(l.hf c d).1.dI;omega) (λc c d=>(q (c.zero d)).mono c)
  have p:(dA (a+1) (a6.node g)).kids=g.map (bY a):=rfl;rw[p];generalize jU k h (g.map (bY a)) j (eI a (a6.cN bz b a f))=e at*;obtain⟨w,a⟩:=e;obtain⟨a,b,c⟩:=o;simp only at a b c;subst a;simp only;exact⟨rfl,i.trans b,c⟩
def vu:(b:Nat)->a6.T b->eH
 |0,a=>if a6.len a=0 then none else some ⟨0,a⟩
 |b+1,a=>match a6.kids a with
  | [c]=>some ⟨b,c⟩
  | _=>some ⟨b+1,a⟩
def jw (a:eH) (c:List Int):eH:=
 match a with
 |none=>none
 |some ⟨b,a⟩=>if c∈a6.bc b a then vu b (a6.cN bz c b a)else some ⟨b,a⟩
theorem a2C (E:1<=e) (F:e<=8) (j:bO e q) (l:iN e b7) (m:mu H b7) (T:q∈eA b7):pP H (jw b7 q) (kH e q H (hI b7)):=by
 match b7 with
 |none=>cases T
 |some ⟨a,b7⟩=>
  have d:GT e a b7:=l;have V:q∈a6.bc a b7:=T;have W:=uG E F d.jW;have h:=fa.high a b7 d.jW;have w:=W.size;have A:=d.dI;have B:=Gi E F j a b7 H ((bY a b7).size.toNat+1) d m a9r V;obtain⟨n,x,y,o⟩:=a6.px (gz E F) j a b7 d.wf d.ea d.ok;have s:jw (some ⟨a,b7⟩) q=vu a (a6.cN bz q a b7):=by simp only[jw];rw[if_pos V]
  have t:hI (some ⟨a,b7⟩)=bY a b7:=rfl;rw[s];unfold kH;rw[t,if_neg W.ne];have p: ∀G∈a6.bc a (a6.cN bz q a b7),bO e G:=λG u=>by
   rw[n]at u;exact d.ok G (a7P.1 u).1
  have z:(a6.bc a (a6.cN bz q a b7)).length<=1000:=by grind
  have S:=d.wf;clear w W m s t l;generalize ie e q ((bY a b7).size.toNat+1) H (bY a b7)=G at*;generalize a6.cN bz q a b7=b at*;obtain⟨K,M⟩:=G;obtain⟨v,L,k⟩:=B;simp only at v L k;subst v;simp only;clear T V d h A n
  match a,b7,b,x,y,o,p,z,k,S with
  |0,b7,b,x,y,o,p,z,k,S=>
   show pP H (if a6.len b=0 then none else some ⟨0,b⟩) _;have f: ¬((eI 0 b).leaf=false/\(eI 0 b).kids.length=1):=λh=>absurd h.1 (show¬true=false by decide);by_cases c:a6.len b=0
   .rw[if_pos c,if_pos (⟨rfl,c⟩:(eI 0 b).leaf=true/\(eI 0 b).rows.length=0)];exact⟨rfl,L,λ_=>trivial⟩
   .have g: ¬((eI 0 b).leaf=true/\(eI 0 b).rows.length=0):=λh=>c h.2;rw[if_neg c,if_neg g,if_neg f,zL (h:=0) (t:=b)];have i:=(nr E F 0 b ⟨⟨a9r,o,trivial,λh=>by omega⟩,p,a9r⟩).1;rw[oA i.oz];exact⟨rfl,L.trans (lv _ _),λc=>qU c⟩
  |a+1,b7,b,x,y,o,p,z,k,S=>
   have N:=S.2.2.2 a9r;have g: ¬((eI (a+1) b).leaf=true/\(eI (a+1) b).rows.length=0):=λh=>absurd h.1 (show¬false=true by decide);rw[if_neg g];obtain⟨r,rfl⟩:=a6.gw b;rw[a6.dG]at y o
   match r,y,o,x,p,z,k with
   | [],y,_,_,_,_,_=>simp at y;omega
   | [P],_,_,x,p,z,k=>rw[if_pos (⟨rfl,rfl⟩:(eI (a+1) (a6.node [P])).leaf=false/\(eI (a+1) (a6.node [P])).kids.length=1)];exact⟨rfl,L,λc=>k c P (by simp[a6.fh])⟩
   |C::D::r,_,o,x,p,z,k=>
    have f: ¬((eI (a+1) (a6.node (C::D::r))).leaf=false/\(eI (a+1) (a6.node (C::D::r))).kids.length=1):=λh=>by
     have:=h.2;rw[show(eI (a+1) (a6.node (C::D::r))).kids=(C::D::r).map (bY a)from rfl]at this;simp at this
    rw[if_neg f,zL (h:=a+1) (t:=a6.node (C::D::r))];have i:=(nr E F (a+1) (a6.node (C::D::r)) ⟨⟨by rw[a6.dG];simp,by rw[a6.dG];exact o,x,λ_=>by rw[a6.dG];simp⟩,p,a9r⟩).1;rw[oA i.oz];exact⟨rfl,L.trans (lv _ _),λc=>⟨qU c,λP I=>(k ((lv _ _).zero c) P I).mono (lv _ _)⟩⟩
theorem a2D (P:1<=e) (S:e<=8) (T:bO e q) (F:iN e b7):iN e (jw b7 q)/\(eA (jw b7 q)).length<=(eA b7).length:=by
 match b7 with
 |none=>exact⟨trivial,a5m _⟩
 |some ⟨c,b7⟩=>
  have d:GT e c b7:=F;simp only[jw];by_cases G:q∈a6.bc c b7
  .rw[if_pos G];obtain⟨b,h,o,k⟩:=a6.px (gz P S) T c b7 d.wf d.ea d.ok;have i:=a8h (λa=>decide (a≠q)) (a6.bc c b7);have y:=d.ea.filter λa=>decide (a≠q);have z: ∀C∈(a6.bc c b7).filter (λa=>decide (a≠q)),bO e C:=λC V=>d.ok C (a7P.1 V).1;have j:=d.dI;have p:=d.wf;show iN e _/\ _<=(a6.bc c b7).length;generalize (a6.bc c b7).filter (λa=>decide (a≠q))=W at*;generalize a6.cN bz q c b7=a at*;generalize (a6.bc c b7).length=r at*;clear G F d
   match c,a,b7,b,h,o,k,p with
   |0,a,b7,b,h,o,k,p=>
    show iN e (if a6.len a=0 then none else some ⟨0,a⟩)/\(eA (if a6.len a=0 then none else some ⟨0,a⟩)).length<=r;by_cases L:a6.len a=0
    .rw[if_pos L];exact⟨trivial,by simp[eA]⟩
    .rw[if_neg L];refine⟨⟨⟨a9r,k,trivial,λl=>by omega⟩,by rw[b];exact y,by rw[b];exact z,by rw[b];omega⟩,?_⟩;show(a6.bc 0 a).length<=r;rw[b];omega
   |c+1,a,b7,b,h,o,k,p=>
    have m:=p.2.2.2 a9r;obtain⟨D,rfl⟩:=a6.gw a;rw[a6.dG]at o k
    match D,o,k,h,b with
    | [],o,_,_,_=>simp at o;omega
    | [E],_,_,h,b=>
     have x:a6.bc c E=W:=by rw[<-b,a6.fO];simp
     refine⟨⟨a6.jR.of (h E (by simp[a6.fh])),by rw[x];exact y,by rw[x];exact z,by rw[x];omega⟩,?_⟩;show(a6.bc c E).length<=r;rw[x];omega
    |f::g::D,_,k,h,b=>refine⟨⟨⟨by rw[a6.dG];simp,by rw[a6.dG];exact k,h,λ_=>by rw[a6.dG];simp⟩,by rw[b];exact y,by rw[b];exact z,by rw[b];omega⟩,?_⟩;show(a6.bc (c+1) (a6.node (f::g::D))).length<=r;rw[b];omega
  simp_all
def a2E (o:1<=e) (p:e<=8) (b:List Int) (k:Own) (r:bO e b) (a:eH) (c:R) (f:U) (h:fQ f a c) (m:iN e a):
  AC Tryz.prog 53 [c,.J (ad b) k] f λl g=>f.sub g/\ ∃i d,l= .aL [i,.v (.bool d)]/\fQ g (jw a b) i:=by
 have i: ∀c d:R,aY false 1 [c,d]=c:=λ_ _=>rfl;have j: ∀c d:R,aY false 1 ([c,d].drop 1)=d:=λ_ _=>rfl;refine bf hm KX a9s ?_
 match a with
 |none=>obtain rfl:=h;refine cp ?_;refine ai (Zf f) ?_;rintro _ f ⟨rfl,rfl⟩;refine cp ?_;refine ai (y3 [] [] .nil k b f trivial a9s a9s) ?_;rintro _ _ ⟨rfl,rfl⟩;have c:decide (b∈([]:List (List Int)))=false:=a9s;refine ax @c ?_;exact⟨_,U.a1,U.a1,_,_,rfl,rfl⟩
 |some ⟨c,a⟩=>
  obtain⟨d,g,g,rfl,g⟩:=bu.ptr h;have g:GT e c a:=m;have e:=g.dI;refine cp ?_;refine ai (y0 c a (.ptr d 0) f h a9r) ?_;rintro _ e ⟨m,f,n,rfl,q⟩;refine cp ?_;refine ai (y3 _ f n k b e q a9r λl f=>by have:=(g.ok l f).len;omega) ?_;rintro _ e ⟨rfl,rfl⟩;by_cases n:b∈a6.bc c a
  .refine ax @n ?_;refine ai (a2v o p b k r c a (.ptr d 0) e (bu.mono m h) g) ?_;rintro l q ⟨d,f⟩;have e:jw (some ⟨c,a⟩) b=vu c (a6.cN bz b c a):=by simp only[jw];rw[if_pos n]
   rw[e];obtain⟨_,e,e,k⟩:=a6.px (gz o p) r c a g.wf g.ea g.ok;have e:=g.wf;have o:=U.aq m d;generalize a6.cN bz b c a=d at*;cases c with
   |zero=>
    obtain⟨u,p,s,v,rfl,b,a⟩:=id f;have g:=a.len;have e:p.length<=4:=by rw[g];exact k
    have l:(([]:List R).length:Int)=0:=rfl;have e: ¬((0:Int)=1):=a9r;refine ax (bp (U.af b) @i @j @l @e) ?_;by_cases t:(p.length:Int)=0
    .have r:(0:Int)+(p.length:Int)=0:=a9r;refine ax (cd (U.af b) @i @j @l @e @t @r) ?_;refine⟨_,U.a1,o,_,_,rfl,?_⟩;show fQ q (if a6.len d=0 then none else some ⟨0,d⟩) _;rw[if_pos (by show(a6.rows d).length=0;omega)];rfl
    .have r: ¬((0:Int)+(p.length:Int)=0):=a9r;refine ax (cd (U.af b) @i @j @l @e @t @r) ?_;refine⟨_,U.a1,o,_,_,rfl,?_⟩;show fQ q (if a6.len d=0 then none else some ⟨0,d⟩) _;rw[if_neg (by show¬(a6.rows d).length=0;omega)];exact f
   |succ c=>
    obtain⟨p,rfl⟩:=a6.gw d;obtain⟨u,d,s,v,rfl,b,a,c,_⟩:=id f;rw[a6.fh]at a c;have g:=a.len;rw[a6.dG]at k
    match p,d,a,c,g,b,f,k with
    | [],_,_,c,_,_,_,_=>exact absurd rfl c
    | [r],[c],a,_,_,b,_,_=>
     have t:c.cells.length=1:=a.1.cells;obtain⟨c,t,t,rfl,_⟩:=bu.ptr a.1;have t:cS 1 (.J [.ptr c 0] s) (.v (.int .i64 0))=some (.bW [.ptr c 0]):=by rw[hn a9r];exact ix rfl
     have s:dr false 1 q (.bW [.ptr c 0])=some (.ptr c 0):=rfl;have e:(([R.ptr c 0]:List R).length:Int)=1:=rfl;refine ax (bD (U.af b) @i @j @e @t @s) ?_;refine⟨_,U.a1,o,_,_,rfl,?_⟩;exact a.1
    |r::c2::p,d,a,_,g,b,f,k=>simp only[a4O]at g k;have e: ¬((d.length:Int)=1):=a9r;have l:(([]:List R).length:Int)=0:=rfl;have a: ¬((d.length:Int)+0=0):=a9r;refine ax (bD (U.af b) @i @j @l @e @a) ?_;refine⟨_,U.a1,o,_,_,rfl,?_⟩;exact f
  .refine ax @n ?_;refine⟨_,U.a1,m,_,_,rfl,?_⟩;simp only[jw,if_neg n];exact bu.mono m h
structure aS where
 name:List UInt8
 aC:List (List UInt8)
 rows:List (List Int)
 bL:aD
 ck:eH
instance:Inhabited aS:=⟨⟨[],[],[],.nil,none⟩⟩
def aS.bA (a:aS):aK:=⟨a.name,a.aC,bn a.bL,hI a.ck⟩
def c3 (a:List aS) (b:List UInt8):Nat:=a.findIdx λc=>decide (c.name=b)
def jx (a:List aS) (b:List UInt8):Nat:=(a.takeWhile λc=> !bZ b c.name).length
def bR (a:List Int):Int:=a.getD 0 0
def gT (a:List Int) (c:List (List Int)):List (List Int):=c.takeWhile (λb=> !decide (bR a<bR b))++a::c.dropWhile (λb=> !decide (bR a<bR b))
def rk (a:List (List Int)):List (List Int):=a.foldl (λb c=>gT c b) []
def aS.put (a:aS) (b:List Int):aS:=⟨a.name,a.aC,rk (a.rows++ [b]),(de (a.aC.length+1) b a.bL 0).1,kK a.ck b⟩
def aS.del (a:aS) (b:List Int):aS:=⟨a.name,a.aC,a.rows.filter (λc=>decide (c≠b)),(lA (a.aC.length+1) b a.bL).1,jw a.ck b⟩
def ee (a:List aS) (b:cq):Int×List aS:=
 if eb b=false then(1,a)
 else if b.kind=1 then(if c3 a b.table<a.length then(4,a)else if 7<a.length then(10,a)else(0,a.take (jx a b.table)++⟨b.table,b.aC,[],.nil,none⟩::a.drop (jx a b.table)))
 else if a.length<=c3 a b.table then(3,a)
 else if b.kind=2 then(0,a.eraseIdx (c3 a b.table))
 else if b.row.length≠(a.getD (c3 a b.table) default).aC.length+1 then(6,a)
 else if b.kind=4 then(if b.row∈(a.getD (c3 a b.table) default).rows then(0,a.set (c3 a b.table) ((a.getD (c3 a b.table) default).del b.row))else(9,a))
 else if(a.getD (c3 a b.table) default).rows.any (λc=>decide (bR c=bR b.row))=true then(8,a)
 else(0,a.set (c3 a b.table) ((a.getD (c3 a b.table) default).put b.row))
structure eQ (n:Nat) (t:aS):Prop where
 right:eb ⟨1,t.name,t.aC,[]⟩=true
 dB:lE (t.aC.length+1) n t.bL
 gd:t.bL.all.Perm t.rows
 go:iN (t.aC.length+1) t.ck
 nI:(eA t.ck).Perm t.rows
 ea:t.rows.Pairwise (λa b=>bR a<bR b)
 dI:t.rows.length<=n
variable{j7:aS}
theorem eQ.c (a:eQ e j7):1<=j7.aC.length/\j7.aC.length<=7:=by have b:=a.right;simp_all [eb,ns,a4M,decide_eq_true_eq,if_pos]
def eQ.row (a:eQ e j7) (b:q∈j7.rows):bO (j7.aC.length+1) q:=a.dB.fj q (aD.gH (a.gd.mem_iff.2 b))
def eQ.le (a:eQ e j7) (b:e<=i):eQ i j7:=⟨a.right,⟨a.dB.fj,a.dB.vh,by have:=a.dB.cr;omega⟩,a.gd,a.go,a.nI,a.ea,by have:=a.dI;omega⟩
structure cP (n:Nat) (cC:List aS):Prop where
 ok: ∀t∈cC,eQ n t
 ea:cC.Pairwise (λa b=>bZ a.name b.name=true)
 dI:cC.length<=8
theorem cP.nil {n:Nat}:cP n []:=⟨λb a=>(by cases a),.nil,a9s⟩
def zM (b:1<=e) (c:e<=8) (a:iN e b7):(b7=none/\hI b7=aA)\/(b7≠none/\jj e (eA b7).length (hI b7)):=by
 match b7,a with
 |none,_=>exact .inl ⟨rfl,rfl⟩
 |some ⟨d,b7⟩,a=>exact .inr ⟨a9s,uG b c (GT.jW a)⟩
theorem eQ.bA {h:Nat}{d:aS} (a:eQ h d) (x:h<=1000):fU d.bA=true:=by
 have y:=a.c;have c:=fi (a:=d.aC.length+1) a9r a9r a.dB.fj (by have:=a.dB.cr;omega);have z:=a.dB.cr;have C:=a.gd.length_eq;have k:=a.nI.length_eq;have D:=a.dI;have o:=c.live;unfold fU aS.bA
 dsimp only
 simp only[a4M,a6u,decide_eq_true_eq];rcases zM (e:=d.aC.length+1) a9r a9r a.go with ⟨p,b⟩|⟨p,b⟩
 .have r:(aA).live=0:=rfl;rw[p]at k;refine⟨a.right,c.ok a9r,?_,?_,by rw[c.key];rfl,.inl b⟩
  .rw[b];unfold fp;rw[decide_eq_true rfl,a9p]
  .rw[b,o,r];simp[eA]at k;omega
 .refine⟨a.right,c.ok a9r,b.ok a9r,?_,by rw[c.key];rfl,.inr ⟨b.key.len,?_⟩⟩
  .rw[o,b.live];omega
  .rw[b.size,b.live]
variable{X:List aS}
def cP.cat (a:cP e X) (b:e<=1000):cB (X.map aS.bA)=true:=by
 refine oL.2 ⟨λk c=> ?_,?_,by rw[a4V];exact a.dI⟩
 .obtain⟨d,h,rfl⟩:=a5f.1 c;exact(a.ok d h).bA b
 .rw[a7p];exact a.ea
theorem zN: ∀ {a:List aK}{nm:List UInt8},a.Pairwise (λh k=>bZ h.name k.name=true)->(a.findIdx λb=>decide (b.name=nm))<a.length->df a nm=a.findIdx λb=>decide (b.name=nm)
 | [],nm,_,c=>by simp at c
 |b::a,nm,o,c=>by
  obtain⟨x,p⟩:=a5t.1 o;rw[List.findIdx_cons]at c|-;unfold df;rw[a5B];by_cases d:b.name=nm
  .rw[decide_eq_true d];simp[d,zs]
  .rw[decide_eq_false d]at c|-;simp only[cond_false,a4O]at c|-;have ih:=zN (nm:=nm) p a9r;have r:bZ b.name nm=true:=by grind
   rw[if_pos r,a4O];unfold df at ih;rw[ih]
variable{B:List UInt8}
theorem vv:((X.map aS.bA).findIdx λa=>decide (a.name=B))=c3 X B:=by rw[List.findIdx_map];rfl
theorem tj (a:c3 X B<X.length):(X.getD (c3 X B) default).name=B:=by have:=List.findIdx_getElem (w:=a);rw[a5u,a4J a];exact of_decide_eq_true this
theorem vw (a:c3 X B<X.length):X.getD (c3 X B) default∈X:=by simp_all
def Gj (b:X.length<=c3 X B): ∀a∈X,a.name≠B:=λa c d=>by
 have:=List.findIdx_lt_length_of_exists (p:=λa:aS=>decide (a.name=B)) ⟨a,c,decide_eq_true d⟩;have h:X.length<=X.findIdx λa=>decide (a.name=B):=b;omega
def zO (c:cP e X):gI (X.map aS.bA) B=decide (c3 X B<X.length):=by
 have d:(X.map aS.bA).Pairwise (λh k=>bZ h.name k.name=true):=by rw[a7p];exact c.ea
 by_cases a:c3 X B<X.length
 .have b:=zN (nm:=B) d (by rw[vv,a4V];exact a);rw[vv]at b;unfold gI;rw[b,decide_eq_true a,a4V,decide_eq_true a,a6o];refine decide_eq_true ?_;have:=tj a;rw[a5u,a4J (by rw[a4V];exact a),a6M,a8J];rw[a5u,a4J a,a6M]at this;exact this
 .rw[decide_eq_false a];unfold gI;rw[a8f];by_cases c2:df (X.map aS.bA) B<(X.map aS.bA).length
  .right;refine decide_eq_false λb=> ?_;rw[a5u,a4J c2,a6M,a8J]at b;exact Gj a9r _ (a5o (by rw[a4V]at c2;exact c2)) b
  .left;exact decide_eq_false c2
theorem Gk (a:cP e X) (d:c3 X B<X.length):df (X.map aS.bA) B=c3 X B:=by
 have h:(X.map aS.bA).Pairwise (λb c=>bZ b.name c.name=true):=by rw[a7p];exact a.ea
 grind[vv,zN,List.length_map]
theorem pQ:(X.map aS.bA).find? (λa=>decide (a.name=B))=(X[c3 X B]?).map aS.bA:=by rw[List.find?_eq_getElem?_findIdx,vv,a5l]
theorem a2F {a:List UInt8} (b:B≠a):(!bZ a B)=bZ B a:=by grind[bZ,absurd,FG,vi,zs]
theorem a2G (a:X.length<=c3 X B):df (X.map aS.bA) B=jx X B:=by
 have b:=Gj a;clear a;unfold df jx
 induction X with
 |nil=>rfl
 |cons c X ih=>have d:=a2F (b c a9s);have ih:=ih λh k=>b h (by simp[k]);rw[a5j,a5B,a5B,d];show(if bZ c.name B=true then _ else _:List aK).length= _;grind
def gJ (c:Nat) (d h:U):Prop:= ∀b a,d b=some (.cells a)->a.length≠c->h b=some (.cells a)
theorem gJ.of {s:U} (a:iA s f):gJ e s f:=λb c d _=>a b c d
theorem gJ.set {c a:Nat}{b:U}{d:List R}{h:bq} (p:b a=some (.cells d)) (r:d.length=c):gJ c b (b.set a h):=λk x o y=>by
 have:k≠a:=by grind
 rw[U.an _ _ this];exact o
def dS.gK {n:Nat}{c d:U} (a:n≠4) (b:gJ n c d): ∀ {h:aD}{k:R},dS c h k->dS d h k
 | .nil,_,o=>o
 | .node _ _ _ _,_,⟨p,r,x,y,h1,z,C,D⟩=>⟨p,r,x,y,h1,b _ _ z (by simpa using a.symm),C.gK a b,D.gK a b⟩
def fQ.Gl (b:zI f t) (a:fQ f b7 n):fQ t b7 n:=by
 match b7 with
 |none=>exact a
 |some ⟨_,_⟩=>exact bu.vs b a
def fQ.gK {n:Nat} (a:n≠2) (b:gJ n f t) (c:fQ f b7 b3):fQ t b7 b3:=c.Gl λh k o p r d=>b _ _ d (by simpa using a.symm)
variable{Y:bq}
theorem oN (a:bj f t i g N) (d:f e=none) (b:t e=some (.cells A)):bj f (t.set e Y) i g N:=by
 refine⟨U.ae a.1 d,?_⟩;have c:=a.2;cases N with
 |buf h k=>
  have o:h≠e:=by rintro rfl;rw[c.2]at b;cases b
  grind[U.an]
 | _=>exact c
theorem fQ.cells {d:U}{b:eH}{a:R} (c:fQ d b a):a.cells= [a]:=by
 match b with
 |none=>obtain rfl:a= .v (.pointer none):=c;rfl
 |some ⟨_,_⟩=>obtain⟨h,k,o,rfl,_⟩:=bu.ptr c;rfl
def gL (b:U) (a:aS) (o:R):Prop:= ∃c p d r h k,o= .ptr c 0/\b c=some (.cells [bd a.name,.J (bF a.aC) p,.J d r,h,k])/\az isRow a.rows d/\dS b a.bL h/\fQ b a.ck k
def gL.gK {b c:U} (a:gJ 1 b c) {d:aS}{h:R} (k:gL b d h):gL c d h:=by obtain⟨o,p,r,x,y,z,C,D,E,F,G⟩:=k;exact⟨o,p,r,x,y,z,C,a _ _ D a9s,E,F.gK a9v a,G.gK a9v a⟩
def gL.sub (a:f.sub t) (b:gL f j7 n):gL t j7 n:=b.gK (gJ.of (U.o4 a))
def fF (a:U) (c:Nat) (d:List aS):Prop:= ∃b h,a c=some (.cells [.J b h])/\az (gL a) d b
def fF.sub {b c:U} (d:b.sub c) {h:Nat}{k:List aS} (a:fF b h k):fF c h k:=by obtain⟨o,p,r,x⟩:=a;exact⟨o,p,d _ _ r,x.mono λy z a=>a.sub d⟩
def zP (a:az (gL f) X g):aN 1 g:=λk c=>by
 obtain⟨d,h,rfl⟩:=a5A c;have o:=a.len;obtain⟨p,b,r,_,_,_,_,_,rfl,_⟩:=a.get (a4J (show d<X.length by omega));rw[a4J h]at b;rw[a4I b];rfl
theorem a2H (b:e<X.length) (c: ∀a<e,(X.getD a default).name≠B) (d:(X.getD e default).name=B):c3 X B=e:=by grind[c3,List.findIdx_eq,List.getElem?_eq_getElem,decide_eq_true,decide_eq_false]
theorem a2I (b: ∀a<X.length,(X.getD a default).name≠B):X.length<=c3 X B:=by grind[Nat.lt_or_ge,c3,absurd,tj]
def pR (a:List aS) (b:List UInt8):Int:=if c3 a b<a.length then(c3 a b:Int)else -1
theorem a2J (h:U) (o:Nat) (b:List aS) (p:fF h o b) (c:List UInt8) (P:b.length<=1000):
  AC Tryz.prog 13 [.ptr o 0,bd c] h λz C=>C=h/\z= .v (.int .i64 (pR b c)):=by
 obtain⟨S,T,D,r⟩:=p;have V:=r.len;have W:=U.af D;refine aO hm JX ?_;refine gP [0,1] (λa:Nat=> [(5,.v (.int .i64 a))]) (λa=>a<=b.length/\ ∀d<a,(b.getD d default).name≠c) (λa=>b.length - a) 0 ⟨a5q _,λd p=>by omega⟩ aU ?_;rintro a ⟨e,x⟩ f;refine aa ?_;refine aH (λE=> ?_) λE=> ?_
 .have k:a<b.length:=a9r;have F:b[a]? =some (b.getD a default):=by simp[List.getD,k]
  obtain⟨_,g,i,j,l,m,n,q,rfl,G,_,_,_⟩:=r.get F;have s:=U.af G;have t:=(vj (b.getD a default).name c).1;refine aa ?_;refine aH (λc2=> ?_) λc2=> ?_
  .have y:=a2H k x c2;unfold pR;rw[y,if_pos k]
  .exact⟨a+1,⟨a9r,λd L=>by grind⟩,rfl,a9r⟩
 .have y:=a2I (B:=c) λd L=>x d a9r;unfold pR;rw[if_neg a9r]
def a2K (e:U) (a:Nat) (b:List aS) (f:fF e a b) (c:b.length<=1000):
  AC Tryz.prog 19 [.ptr a 0] e λa c=>e.sub c/\ ∃d,a= .ptr d 0/\e d=none/\fF c d b:=by
 obtain⟨a,a,l,m⟩:=f;have a:=m.len;have a:=U.af l;refine aO hm K3 ?_;refine br λd h=> ?_;refine cj [0,3] (λa:Nat=> [(4,.v (.int .i64 a))]) (λa c=>e.sub c/\a<=b.length/\ ∃g i,c d=some (.cells [.J g i])/\bj e c 1 g i/\az (gL c) (b.take a) g) (λa=>b.length - a) 0 ⟨⟨U.ae U.a1 h,a9r,[],.nil,U.ah _ _ _,bj.nil (U.ae U.a1 h),trivial⟩,aU⟩ ?_;rintro a i ⟨j,c,r,u,k,v,c⟩ e;have e:=U.af (j _ _ l);have e:=c.len;rw[a4N]at e;refine aa ?_;refine aH (λe=> ?_) λe=> ?_
 .have e:a<b.length:=a9r;have g:b[a]? =some (b.getD a default):=by simp[List.getD,e]
  obtain⟨_,l,q⟩:=m.get g;obtain⟨g,l,m,n,o,p,rfl,g,w,s,t⟩:=q.sub j;have q:=U.af g;have g:=U.af k;have g:=s.cells;have eR:=t.cells;have x:=eU (a:=b) (e:=a) (b:=default) e;generalize b.getD a default=e at*;refine aa ?_;refine aP λg q=> ?_;refine aa ?_;have y:gL (i.set g (.cells [bd e.name,.J (bF e.aC) l,.J m n,o,p])) e (.ptr g 0):=⟨g,l,m,n,o,p,rfl,U.ah _ _ _,w,s.mono (U.ae U.a1 q),t.fH (U.o4 (U.ae U.a1 q))⟩;have s:=U.ae (Y:= .cells [bd e.name,.J (bF e.aC) l,.J m n,o,p]) (U.a1 (f:=i)) q;generalize i.set g _=e at*;refine cJ U.a1 (by simp[aN,R.cells]) λe e l=> ?_;have e:=U.aq s l.sub;refine aa ?_;refine qB (v.mono e) (zP (c.mono λ_ _ f=>f)) (by simp[aN,R.cells]) a9t a9t λo m n aM=> ?_;have fx:=(U.o4 e).trans aM;have e:=fx _ _ k;have nz:=U.aJ e;refine aa ?_;refine⟨a+1,⟨n.sub,a9r,_,_,rfl,oN n h e,?_⟩,rfl,a9r⟩;have n:gJ 1 m (m.set d (.cells [.J (r++ [.ptr g 0]) o])):=gJ.set e rfl;rw[x];exact az.snoc (c.mono λ_ _ f=>(f.gK (gJ.of fx)).gK n) (((y.sub l.sub).gK (gJ.of aM)).gK n)
 .obtain rfl:a=b.length:=a9r;rw[a5h]at c;exact⟨i,U.a1,j,d,rfl,h,r,u,k,c⟩
def zQ (c d:Own):Prop:= ∀a h b k,c= .buf a h->d= .buf b k->a≠b
variable{s a7:R -> U -> Prop}
def Gm {F:cD s} (r:bj t f e g e5) (x:bj t f e e1 N) (y:zQ e5 N) (G:aN e g) (L:aN e A) (P:(g.length+A.length)*i<=140737488355328) (S:g.length+A.length<=9223372036854775807)
  (T: ∀c b,bj t b e (g++A) c->bj t b e e1 N->zQ c N->iA f b->s (.J (g++A) c) b):lX e i f (.J g e5) (.J A h5) (bP s F):=by
 obtain⟨j,V,l,z,k⟩:=r.o7;refine dq V G L P S λc b d=>T c b (d.base z) ⟨U.aq z d.sub,?_⟩ ?_ λW m o=>d.sub _ _ ?_
 .have a:=x.2;cases N with
  |buf h C=>refine⟨a.1,d.sub _ _ ?_⟩;rw[k h λD E p=>y _ _ _ _ p rfl];exact a.2
  | _=>exact a
 .rintro h C D E rfl rfl rfl;have a:=d.2.1;rw[k h λD E p=>y _ _ _ _ p rfl,x.2.2]at a;cases a
 .rw[k W (λh C a=>by subst a;rintro rfl;rw[r.2.2]at o;cases o)];exact o
def Gn {a:Int->Int->Int} (b:e<q.length) (c:e<b6.length):(List.zipWith a q b6).take (e+1)=(List.zipWith a q b6).take e++ [a (q.getD e 0) (b6.getD e 0)]:=by rw[a5X (by rw[a6D];omega),List.getElem_zipWith];simp[List.getD,b,c]
theorem Gp (a f:List Int×List Int) (l m o p:Own) (j:U) (g:a.1.length<=1000000) (w:f.1.length<=1000000):
  AC Tryz.prog 179 [ey a.1 a.2 l m,ey f.1 f.2 o p] j λb n=>j.sub n/\ ∃c i,b=ey (cV a f).1 (cV a f).2 c i:=by
 obtain⟨b,e⟩:=a;obtain⟨c,d⟩:=f
 dsimp only at*
 have a:=bI (q:=b);have a:=bI (q:=c);have y:= @dP b;have z:= @dP e;have A:= @dP c;have B:= @dP d;have h:(if cU b e b.length=true then
  (if cU c d c.length=true then(if b.length=c.length then(List.zipWith k b c,List.zipWith q e d)else([],[]))else(b,e))
  else if cU c d c.length=true then(c,d)else([],[]))=cV (b,e) (c,d):=rfl
 generalize cV (b,e) (c,d)=a at*;refine aO hm OE ?_;refine br λt a=> ?_;refine db λu a a C=> ?_;refine hq λv a a r a s=> ?_;refine bk (FF b e _ _ _ _ g) ?_;refine bk (FF c d _ _ _ _ w) ?_;cases pJ:cU b e b.length with
 |false=>
  cases ik:cU c d c.length with
  |false=>rw[pJ,ik,if_neg a9s,if_neg a9s]at h;refine aa ?_;exact⟨.nil,.nil,by rw[<-h];rfl⟩
  |true=>rw[pJ,ik,if_neg a9s,if_pos rfl]at h;refine aa ?_;exact⟨o,p,by rw[<-h]⟩
 |true=>
  cases ik:cU c d c.length with
  |false=>rw[pJ,ik,if_pos rfl,if_neg a9s]at h;refine aa ?_;exact⟨l,m,by rw[<-h]⟩
  |true=>
   rw[pJ,ik,if_pos rfl,if_pos rfl]at h;by_cases cl:b.length=c.length
   .rw[if_pos cl]at h;have a:=lp pJ;have a:=lp ik;refine aa ?_;refine aP λi f=> ?_;generalize a:((j.set t _).set u _).set v _=g at*;have G:j.sub g:=by subst a;exact aU
    have w:g t=some (.cells [.J (ad b) l,.J (ad e) m]):=by subst a;exact aU
    have x:g u=some (.cells [.J (ad c) o,.J (ad d) p]):=by subst a;exact aU
    have aM:g v=some (.cells [.J [] .nil,.J [] .nil]):=by subst a;exact aU
    have j:v≠i:=by rintro rfl;rw[aM]at f;cases f
    have j:t≠i:=by rintro rfl;rw[w]at f;cases f
    have j:u≠i:=by rintro rfl;rw[x]at f;cases f
    clear a pJ ik;have t:=λa o j=>Gn (a:=k) (q:=b) (b6:=c) (e:=a) o j;have D:=λa o j=>Gn (a:=q) (q:=e) (b6:=d) (e:=a) o j;have j:(List.zipWith k b c).length=b.length:=by rw[a6D];omega
    have j:(List.zipWith q e d).length=b.length:=by rw[a6D];omega
    generalize List.zipWith k b c=l at*;generalize List.zipWith q e d=m at*;refine aa ?_;refine cj [2,3,4,7] (λa:Nat=> [(8,.v (.int .i64 (a:Int)))]) (λa n=>a<=b.length/\ ∃p j,n i=some (.cells [.J (ad (l.take a)) p,.J (ad (m.take a)) j])/\bj g n 1 (ad (l.take a)) p/\bj g n 1 (ad (m.take a)) j/\zQ p j) (λa=>b.length - a) 0
     ⟨⟨a5q _,.nil,.nil,U.ah _ _ _,bj.nil (U.ae U.a1 f),bj.nil (U.ae U.a1 f),λ_ _ _ _ o=>by cases o⟩,aU⟩ ?_
    rintro a g ⟨g,p,j,u,g,n,v⟩ o;have qw:=U.af (g.sub _ _ w);have mV:=U.af (g.sub _ _ x);have H:=U.af u;have o:(ad (l.take a)).length=a:=by rw[bI,a4N];omega
    have o:(ad (m.take a)).length=a:=by rw[bI,a4N];omega
    by_cases o:a<b.length
    .have o:=y (a:=a) a9r;have o:=z (a:=a) a9r;have o:=A (a:=a) a9r;have o:=B (a:=a) a9r;have E:=t a a9r a9r;have F:=D a a9r a9r;clear y z A B t D;generalize b.getD a 0=o at*;generalize c.getD a 0=t at*;generalize e.getD a 0=a3 at*;generalize d.getD a 0=a4 at*;have y:(a:Int)<(c.length:Int):=a9r;have zR:aN 1 (ad (l.take a)):=λC c=>by obtain⟨d,_,rfl⟩:=a5f.1 c;rfl
     have zS:aN 1 (ad (m.take a)):=λC c=>by obtain⟨d,_,rfl⟩:=a5f.1 c;rfl
     have z:ad (l.take (a+1))=ad (l.take a)++ [.v (.int .i64 (k o t))]:=by rw[E];simp[ad]
     have A:ad (m.take (a+1))=ad (m.take a)++ [.v (.int .i64 (q a3 a4))]:=by rw[F];simp[ad]
     clear E F;generalize ad (l.take a)=e at*;generalize ad (m.take a)=l at*;refine aa ?_;refine cJ U.a1 (by simp[aN,R.cells]) λc c m=> ?_;refine aa ?_;refine Gm (g.mono m.sub) (n.mono m.sub) v zR (by simp[aN,R.cells]) a9t a9t λc q g n v B=> ?_;have d:=B _ _ (m.sub _ _ u);have aF:=U.aJ d;have qw:=U.af (g.sub _ _ w);have mV:=U.af (g.sub _ _ x);refine aa ?_;have m:=oN (Y:= .cells [.J (e++ [.v (.int .i64 (k o t))]) c,.J l j]) g f d;have w:=oN (Y:= .cells [.J (e++ [.v (.int .i64 (k o t))]) c,.J l j]) n f d;have x:=U.ah q i (.cells [.J (e++ [.v (.int .i64 (k o t))]) c,.J l j]);clear d aF qw mV g n u H;generalize q.set i _=d at*;refine cJ U.a1 (by simp[aN,R.cells]) λd d d=> ?_;refine aa ?_;refine Gm (w.mono d.sub) (m.mono d.sub) (λk y l m r s e=>v _ _ _ _ s r e.symm) zS (by simp[aN,R.cells]) a9t a9t λo i n g q t=> ?_;have i:=t _ _ (d.sub _ _ x);have aF:=U.aJ i;refine aa ?_;refine⟨a+1,⟨a9r,c,o,?_,?_,?_,λk y l m r s e=>q _ _ _ _ s r e.symm⟩,rfl,a9r⟩
     .rw[z,A]
     .rw[z];exact oN g f i
     .rw[A];exact oN n f i
    .obtain rfl:a=b.length:=a9r;have a:=U.aJ (g.sub _ _ aM);refine aa ?_;refine iB ?_;exact⟨U.aq G g.sub,p,j,by grind⟩
   .rw[if_neg cl]at h;refine aa ?_;refine iB ?_;exact⟨.nil,.nil,by rw[<-h];rfl⟩
def ir (a:ay) (b c d:Own) (k:a.sum.length=32):(ab a b c d).length=37/\aY true 2 ((ab a b c d).drop 32)=ey a.aV a.aW b c/\aY false 1 ((ab a b c d).drop 34)= .v (.int .i64 a.live)/\aY false 1 ((ab a b c d).drop 35)= .v (.int .i64 a.size)/\aY false 1 ((ab a b c d).drop 36)= .J (ad a.key) d/\aY true 37 (ab a b c d)= .agg (ab a b c d):=by have h:=aX (N:=b) (e5:=c) (h5:=d) k;refine⟨h.len,by rw[h.d32];rfl,by rw[h.d34];rfl,by rw[h.d35];rfl,by rw[h.d36];rfl,?_⟩;show R.agg ((ab a b c d).take 37)= _;rw[h.t37]
theorem Gq (a:c5) (u v:List R) (C D:Own) (k:U) (S:az di a.rows u) (V:az bt a.kids v) (b:a.rows.length<=4) (d:a.kids.length<=4)
  (w: ∀g∈a.rows,1<=g.1.length/\g.1.length<=8) (k3: ∀c∈a.kids,c.hx/\c.sum.length=32/\c.cF) (k8:(eG a).size<=1048576) (k9:a.kind=2->a.rows≠ []) (l0:a.kind=3->a.kids≠ []):
  AC Tryz.prog 113 [gQ a (.J u C) (.J v D)] k λg q=>k.sub q/\ ∃d e b,g= .aL [.agg (ab (eW a) d e b),.v (.bool true)]:=by
 have f:=S.len;have f:=V.len;have f:(dc a).length<=3000:=by have k4:=qL (l:=a.rows) (c:=gr) (d:=100) λg i=>xv (w g i).2;grind[yG,dc,List.length_append,List.length_cons]
 have eR:=ir aA .nil .nil .nil bl;have j:(eV (dc a)).length=32:=oh _;have l:(⟨eV (dc a),(eG a).aQ.1,(eG a).aQ.2,(eG a).live,(eG a).size,keyOf a⟩:ay)=eW a:=rfl;have n:=λf k i=>a1H (dc a) f k i a9r;have t:=λk=>a0v a u v C D k S V a9r a9r (λg i=>(w g i).2) k3;generalize eV (dc a)=h at*;generalize eW a=r at*;have f:(cM h).cells=h.map ak:=rfl;have f:(h.map ak).length=32:=by simp[j]
 have f:putAt (ab aA .nil .nil .nil) 0 (h.map ak)=ab (fM h ⟨0,0,([],[])⟩) .nil .nil .nil:=um bl j;have E: ∀c:ay,c.sum.length=32-> ∀d e b,putAt (ab aA .nil .nil .nil) 0 (ab c d e b)=ab c d e b:=λc i d e b=>cG bl i;have b:=E (fM h ⟨0,0,([],[])⟩) j .nil .nil .nil;have s:=λ(f:gg) (d e:Own)=>ir (fM h f) d e .nil j;have b:=s ⟨0,0,([],[])⟩ .nil .nil;refine aO hm MB ?_;refine br λb o=> ?_;refine db λm p x x=> ?_;rw[ct];have z:((k.set b (.cells [.v (.int .u8 a.kind.toNat),.J u C,.J v D])).set m (.cells (ab aA .nil .nil .nil))) b=some (.cells [.v (.int .u8 a.kind.toNat),.J u C,.J v D]):=by rw[U.an _ _ x,U.ah]
 have A:=U.ah (k.set b (.cells [.v (.int .u8 a.kind.toNat),.J u C,.J v D])) m (.cells (ab aA .nil .nil .nil));have B:k.sub ((k.set b (.cells [.v (.int .u8 a.kind.toNat),.J u C,.J v D])).set m (.cells (ab aA .nil .nil .nil))):=U.ae (U.ae U.a1 o) p;generalize (k.set b _).set m _=o at*;refine hS (t o) λo K p=> ?_;have n:=n o K (nE.al p);have o:=p.sub;refine bk n ?_;clear n t;refine aP λx y=> ?_;have X:=o _ _ z;have c2:=o _ _ A;have n:b≠x:=by rintro rfl;rw[X]at y;cases y
 have b:m≠x:=by rintro rfl;rw[c2]at y;cases y
 have l1:=U.aq B o;clear o z A B p;refine aa ?_;refine cj [1,2,4] (λb:Nat=> [(5,.v (.int .i64 (b:Int)))]) (λb q=>b<=a.rows.length/\K.sub q/\(0<=((a.rows.take b).foldl dQ ⟨0,a.rows.length,([],[])⟩).live/\((a.rows.take b).foldl dQ ⟨0,a.rows.length,([],[])⟩).live<=b/\((a.rows.take b).foldl dQ ⟨0,a.rows.length,([],[])⟩).aQ.1.length<=8/\((a.rows.take b).foldl dQ ⟨0,a.rows.length,([],[])⟩).aQ.2.length<=8)/\
   ∃d e,q x=some (.cells (ab (fM h ⟨((a.rows.take b).foldl dQ ⟨0,a.rows.length,([],[])⟩).live,b,((a.rows.take b).foldl dQ ⟨0,a.rows.length,([],[])⟩).aQ⟩) d e .nil))) (λb=>a.rows.length - b) 0 ⟨⟨a5q _,U.ae (U.ae U.a1 y) y,a9s,.nil,.nil,U.ah _ _ _⟩,aU⟩ ?_
 rintro b Y ⟨k2,z,⟨m,m,l2,l3⟩,d,e,aM⟩ l4;have L:=λi=>eU (a:=a.rows) (b:=([],false)) (e:=b) i;have m:=λi=>congrArg (List.foldl dQ ⟨0,a.rows.length,([],[])⟩) (L i);generalize W:(a.rows.take b).foldl dQ ⟨0,a.rows.length,([],[])⟩=f at*;have k5:=U.af (z _ _ X);have M:=U.af aM;have N:=s ⟨f.live,b,f.aQ⟩ d e;have k6:putAt (ab (fM h ⟨f.live,b,f.aQ⟩) d e .nil) 35 [.v (.int .i64 ((b:Int)+1))]=ab (fM h ⟨f.live,(b:Int)+1,f.aQ⟩) d e .nil:=sC j;have F:=U.aJ aM
 dsimp only at N
 refine aa ?_;refine aH (λO=> ?_) λO=> ?_
 .have A:b<a.rows.length:=a9r;have P:a.rows[b]? =some (a.rows.getD b ([],false)):=by simp[List.getD,A]
  obtain⟨_,B,t,rfl⟩:=S.get P;have p:=w _ (a4Q P);have m:=m A;rw[a6P,W]at m;generalize a.rows.getD b ([],false)=g at*;have k7:eD 2 u[b]? =some (.bW [.J (ad g.1) t,.v (.bool g.2)]):=by rw[B];rfl
  obtain⟨g,n⟩:=g
  dsimp only at p k7
  have Z:=s ⟨f.live,(b:Int)+1,f.aQ⟩ d e
  dsimp only at Z
  cases n with
  |false=>
   refine aa ?_;have G:(a.rows.take (b+1)).foldl dQ ⟨0,a.rows.length,([],[])⟩=f:=by rw[m];rfl
   refine⟨b+1,⟨A,?_,d,e,?_⟩,rfl,a9r⟩;grind
   .rw[G];push_cast;rfl
  |true=>
   have l5:putAt (ab (fM h ⟨f.live,(b:Int)+1,f.aQ⟩) d e .nil) 34 [.v (.int .i64 (f.live+1))]=ab (fM h ⟨f.live+1,(b:Int)+1,f.aQ⟩) d e .nil:=sB j;have w:=s ⟨f.live+1,(b:Int)+1,f.aQ⟩ d e
   dsimp only at w
   refine aa ?_;generalize H:Y.set x _=I;have j9:I x=some (.cells (ab (fM h ⟨f.live+1,(b:Int)+1,f.aQ⟩) d e .nil)):=by subst H;exact U.ah _ _ _
   have k0:K.sub I:=by subst H;exact U.ae z y
   clear H F M;refine ai (Gp f.aQ (g,g) d e t t I a9r (by dsimp only;omega)) ?_;rintro _ l6 ⟨Q,n,o,rfl⟩;have k1:=Q _ _ j9;have F:=U.aJ k1;have l7:cV f.aQ (gu g)=cV f.aQ (g,g):=by unfold gu;rw[if_pos p]
   have l8:putAt (ab (fM h ⟨f.live+1,(b:Int)+1,f.aQ⟩) d e .nil) 32 [.J (ad (cV f.aQ (g,g)).1) n,.J (ad (cV f.aQ (g,g)).2) o]=ab (fM h ⟨f.live+1,(b:Int)+1,cV f.aQ (g,g)⟩) n o .nil:=xx j;have l9:=oq f.aQ (g,g) 8 l2 l3 p.2 p.2;refine aa ?_;have G:(a.rows.take (b+1)).foldl dQ ⟨0,a.rows.length,([],[])⟩=⟨f.live+1,f.size,cV f.aQ (g,g)⟩:=by rw[m];show dQ f (g,true)= _;rw[dQ,if_pos rfl,l7]
   refine⟨b+1,⟨A,U.aq k0 Q,?_,n,o,?_⟩,rfl,a9r⟩;grind
   .rw[G];push_cast;rfl
 obtain rfl:b=a.rows.length:=a9r;rw[a5h]at W;have p:f.size=a.rows.length:=by rw[<-W,xO]
 have l2:(⟨f.live,a.rows.length,f.aQ⟩:gg)=f:=by rw[<-p]
 rw[l2]at aM;clear m L O M N k6 F k5;refine cj [1,2,4] (λb:Nat=> [(6,.v (.int .i64 (b:Int)))]) (λb q=>b<=a.kids.length/\K.sub q/\(0<=((a.kids.take b).foldl ew f).live/\((a.kids.take b).foldl ew f).live<=4+b*1048576/\0<=((a.kids.take b).foldl ew f).size/\((a.kids.take b).foldl ew f).size<=4+b*1048576/\((a.kids.take b).foldl ew f).aQ.1.length<=8/\((a.kids.take b).foldl ew f).aQ.2.length<=8)/\
   ∃d e,q x=some (.cells (ab (fM h ((a.kids.take b).foldl ew f)) d e .nil))) (λb=>a.kids.length - b) 0 ⟨⟨a5q _,z,a9t,d,e,aM⟩,aU⟩ ?_
 clear aM z;rintro b Y ⟨k2,z,⟨p,p,p,p,l2,l3⟩,d,e,aM⟩ l4;have L:=λi=>eU (a:=a.kids) (b:=aA) (e:=b) i;have m:=λi=>congrArg (List.foldl ew f) (L i);generalize k2:(a.kids.take b).foldl ew f=T at*;have k5:=U.af (z _ _ X);have M:=U.af aM;have N:=s T d e;have F:=U.aJ aM
 dsimp only at N
 refine aa ?_;refine aH (λO=> ?_) λO=> ?_
 .have A:b<a.kids.length:=a9r;have P:a.kids[b]? =some (a.kids.getD b aA):=by simp[List.getD,A]
  obtain⟨_,B,X,k5,n,o,p,rfl⟩:=V.get P;obtain⟨l4,_,_⟩:=k3 _ (a4Q P);obtain⟨k4,k3,P,P,P,P,P⟩:=l4;have m:=m A;rw[a6P,k2]at m;generalize a.kids.getD b aA=c at*;have P:=ir c n o p X;have k7:eD 37 v[b]? =some (.bW (ab c n o p)):=by rw[B];exact ix P.1
  have k6:putAt (ab (fM h T) d e .nil) 35 [.v (.int .i64 (T.size+c.size))]=ab (fM h ⟨T.live,T.size+c.size,T.aQ⟩) d e .nil:=sC j;have l5:putAt (ab (fM h ⟨T.live,T.size+c.size,T.aQ⟩) d e .nil) 34 [.v (.int .i64 (T.live+c.live))]=ab (fM h ⟨T.live+c.live,T.size+c.size,T.aQ⟩) d e .nil:=sB j;have Z:=s ⟨T.live,T.size+c.size,T.aQ⟩ d e;have w:=s ⟨T.live+c.live,T.size+c.size,T.aQ⟩ d e
  dsimp only at Z w
  generalize ab c n o p=Z at*;clear B;refine aa ?_;generalize H:Y.set x _=I;have j9:I x=some (.cells (ab (fM h ⟨T.live+c.live,T.size+c.size,T.aQ⟩) d e .nil)):=by subst H;exact U.ah _ _ _
  have k0:K.sub I:=by subst H;exact U.ae z y
  clear H F M;refine ai (Gp T.aQ (c.aV,c.aW) d e n o I a9r (by dsimp only;omega)) ?_;rintro _ l6 ⟨Q,ch,ca,rfl⟩;have k1:=Q _ _ j9;have F:=U.aJ k1;have l8:putAt (ab (fM h ⟨T.live+c.live,T.size+c.size,T.aQ⟩) d e .nil) 32 [.J (ad (cV T.aQ (c.aV,c.aW)).1) ch,.J (ad (cV T.aQ (c.aV,c.aW)).2) ca]=ab (fM h ⟨T.live+c.live,T.size+c.size,cV T.aQ (c.aV,c.aW)⟩) ch ca .nil:=xx j;have l9:=oq T.aQ (c.aV,c.aW) 8 l2 l3 k4 k3;refine aa ?_;have G:(a.kids.take (b+1)).foldl ew f=⟨T.live+c.live,T.size+c.size,cV T.aQ (c.aV,c.aW)⟩:=by rw[m];rfl
  refine⟨b+1,⟨A,U.aq k0 Q,?_,ch,ca,?_⟩,rfl,a9r⟩;grind
  .rw[G]
 obtain rfl:b=a.kids.length:=a9r;rw[a5h]at k2;have b:eG a=T:=by unfold eG;rw[W,k2]
 rw[b]at k8 l;have b:=U.aJ (z _ _ c2);have b: ∀q:U,K.sub q->k.sub q:=λq i=>U.aq l1 i;clear m L O;have b:r.sum.length=32:=by rw[<-l];exact j
 have i:r.size=T.size:=by rw[<-l]
 by_cases g2:a.kind=2
 .have br:(a.kind.toNat:Int)=2:=by rw[g2];rfl
  obtain⟨g,f,k⟩:=a6V (k9 g2);obtain⟨_,B,t,rfl⟩:=S.get (i:=0) (x:=g) (by rw[k];rfl);have f:keyOf a=g.1:=by unfold keyOf;rw[if_pos g2,k];rfl
  rw[f]at l;have m:cS 2 (.J u C) (.v (.int .i64 0))=some (.bW [.J (ad g.1) t,.v (.bool g.2)]):=by show cS 2 _ (.v (.int .i64 ((0:Nat):Int)))= _;rw[o3,B];rfl
  have q:putAt (ab (fM h T) d e .nil) 36 [.J (ad g.1) t]=ab r d e t:=by rw[<-l];exact sD j
  have w:=ir r d e t b;have k:=E r b d e t;rw[i]at w;generalize g.1=u at*;clear s E l;refine iB ?_;refine iB ?_;exact⟨d,e,t,rfl⟩
 have br: ¬(a.kind.toNat:Int)=2:=λG=>g2 (a5I.1 (by grind));refine iB ?_;by_cases g3:a.kind=3
 .have hq:(a.kind.toNat:Int)=3:=by rw[g3];rfl
  obtain⟨c,g,g⟩:=a6V (l0 g3);obtain⟨_,B,X,k5,n,o,p,rfl⟩:=V.get (i:=0) (x:=c) (by rw[g];rfl);have f:keyOf a=c.key:=by unfold keyOf;rw[if_neg g2,if_pos g3,g];rfl
  rw[f]at l;have P:=ir c n o p X;have m:cS 37 (.J v D) (.v (.int .i64 0))=some (.bW (ab c n o p)):=by show cS 37 _ (.v (.int .i64 ((0:Nat):Int)))= _;rw[o3,B];exact ix P.1
  have q:putAt (ab (fM h T) d e .nil) 36 [.J (ad c.key) p]=ab r d e p:=by rw[<-l];exact sD j
  have w:=ir r d e p b;have k:=E r b d e p;rw[i]at w;generalize ab c n o p=Z at*;generalize c.key=u at*;clear s E l;refine iB ?_;refine iB ?_;exact⟨d,e,p,rfl⟩
 .have hq: ¬(a.kind.toNat:Int)=3:=λG=>g3 (a5I.1 (by grind));have f:keyOf a= []:=by unfold keyOf;rw[if_neg g2,if_neg g3]
  rw[f]at l;have a:fM h T=r:=l;rw[a]at M N F;have w:=ir r d e .nil b;have k:=E r b d e .nil;rw[i]at w;clear s E l;refine iB ?_;refine iB ?_;exact⟨d,e,.nil,rfl⟩
def a2L: ∀(a:List (a6.T e)),eA (py a)=a.flatMap (a6.bc e)
 | []=>rfl
 | [b]=>by simp[py,eA]
 |c::d::h=>rfl
theorem a2M: ∀(a:Nat) (b:a6.T a),eA (vu a b)=a6.bc a b
 |0,b=>by
  obtain⟨d,rfl⟩:=a6.ia b;show eA (if a6.len (a6.leaf d)=0 then none else some ⟨0,a6.leaf d⟩)= _;by_cases c:a6.len (a6.leaf d)=0
  .rw[if_pos c];rw[a6.hz]at c;rw[a6.kD,a4P c];rfl
  .rw[if_neg c];rfl
 |a+1,b=>by
  obtain⟨h,rfl⟩:=a6.gw b;show eA (match a6.kids (a6.node h)with
   | [k]=>some ⟨a,k⟩
   | _=>some ⟨a+1,a6.node h⟩)= _
  grind[a6.fh,a6.fO,eA]
def a2N (d:1<=e) (h:e<=8) (k:bO e q) (o:iN e b7) (p:q∉eA b7):(eA (kK b7 q)).Perm (q::eA b7):=by
 match b7 with
 |none=>show(a6.bc 0 (a6.leaf [q])).Perm _;rw[a6.kD];exact .refl _
 |some ⟨a,b7⟩=>have b:GT e a b7:=o;have c:q∉a6.bc a b7:=p;simp only[kK];rw[if_neg c,a2L];rw[(a6.qT (gz d h) k a b7 b.wf b.ea b.ok c).1];unfold a6.dR;exact a7t.trans (.cons _ (List.Perm.of_eq a5G))
def a2O (d:1<=e) (h:e<=8) (k:bO e q) (o:iN e b7) (c:q∈eA b7):eA (jw b7 q)=(eA b7).filter λp=>decide (p≠q):=by
 match b7 with
 |none=>cases c
 |some ⟨a,b7⟩=>have b:GT e a b7:=o;have r:q∈a6.bc a b7:=c;simp only[jw];rw[if_pos r,a2M];exact(a6.px (gz d h) k a b7 b.wf b.ea b.ok).1
theorem Gr (a:List Int) (b:List (List Int)):(gT a b).Perm (a::b):=by grind[List.takeWhile_append_dropWhile,decide,bR,gT,List.perm_middle]
theorem Gs {b:List Int}: ∀ {a:List (List Int)},a.Pairwise (λk o=>bR k<bR o)->(∀c∈a,bR b≠bR c)->(gT b a).Pairwise (λk o=>bR k<bR o)
 | [],_,_=>by simp[gT]
 |c::a,r,x=>by
  obtain⟨z,C⟩:=a5t.1 r;have D:=x c a9s;by_cases y:bR b<bR c
  .have p:gT b (c::a)=b::c::a:=by simp[gT,a5B,a6f,y]
   rw[p];refine a5t.2 ⟨λh d=> ?_,r⟩;grind
  .have p:gT b (c::a)=c::gT b a:=by simp[gT,a5B,a6f,y]
   rw[p];refine a5t.2 ⟨λh d=> ?_,Gs C λh d=>x h (by simp[d])⟩;rcases a5k.1 ((Gr b a).mem_iff.1 d)with rfl|d
   .omega
   .exact z h d
def Gt: ∀(b a:List (List Int)),(a++b).Pairwise (λh k=>bR h≠bR k)->a.Pairwise (λh k=>bR h<bR k)->(b.foldl (λo c=>gT c o) a).Perm (a++b)/\(b.foldl (λo c=>gT c o) a).Pairwise (λh k=>bR h<bR k)
 | [],a,_,d=>by simpa using d
 |c::b,a,d,r=>by
  have p:(gT c a++b).Perm (a++c::b):=((Gr c a).append_right b).trans a7t.symm;obtain⟨F,G,x⟩:=a5R.1 d;obtain⟨y,z⟩:=Gt b (gT c a) (p.symm.pairwise d λd=>d.symm) (Gs r λC D E=>x C D c a9s E.symm);exact⟨y.trans p,z⟩
theorem a2P (c:O.Pairwise (λa b=>bR a<bR b)) (p: ∀d∈O,bR q≠bR d):(rk (O++ [q])).Perm (q::O)/\(rk (O++ [q])).Pairwise (λa b=>bR a<bR b):=by
 have h:([]++(O++ [q])).Pairwise (λa b=>bR a≠bR b):=by rw[a5d];refine a5R.2 ⟨c.imp λc=>by omega,a9s,λa r b x=> ?_⟩;grind
 obtain⟨k,o⟩:=Gt (O++ [q]) [] h .nil;exact⟨k.trans (List.perm_append_singleton _ _),o⟩
def eQ.put {d:Nat}{a:aS} (b:eQ d a) (G:d<900) {c:List Int} (h:bO (a.aC.length+1) c) (o: ∀y∈a.rows,bR y≠bR c):eQ (d+1) (a.put c)/\(de (a.aC.length+1) c a.bL 0).2=true/\c∉eA a.ck:=by
 have L:=b.c;have p:c∉a.rows:=λhm=>o c hm rfl;have r:(de (a.aC.length+1) c a.bL 0).2=true:=by
  cases z:(de (a.aC.length+1) c a.bL 0).2 with
  |true=>rfl
  |false=>exact absurd (b.gd.mem_iff.1 (zn z)) p
 have x:c∉eA a.ck:=λhm=>p (b.nI.mem_iff.1 hm);obtain⟨k,C⟩:=a2P b.ea λD E F=>o D E F.symm;have P:=b.nI.length_eq;have S:=b.dI;refine⟨⟨b.right,b.dB.ins h,?_,(a2y a9r a9r h b.go a9r).1,?_,C,?_⟩,r,x⟩
 .exact(zm h b.dB.fj r).trans ((b.gd.cons c).trans k.symm)
 .exact(a2N a9r a9r h b.go x).trans ((b.nI.cons c).trans k.symm)
 .show(rk (a.rows++ [c])).length<=d+1;rw[k.length_eq,a4O];omega
theorem a2Q {b:List (List Int)} (d:O.Pairwise (·≠ ·)) (a:O.Perm (q::b)):b.Perm (O.filter λc=>decide (c≠q)):=by have h:=(a.filter λc=>decide (c≠q)).symm;have k:(q::b).Pairwise (·≠ ·):=a.pairwise d λa=>a.symm;obtain⟨o,_⟩:=a5t.1 k;rw[a8e,if_neg a9s]at h;grind[decide,List.filter_eq_self,decide_eq_true]
def eQ.rh (a:eQ e j7):j7.rows.Pairwise (·≠ ·):=a.ea.imp λa b=>by subst b;omega
theorem eQ.del {k:Nat}{b:aS} (a:eQ k b) {c:List Int} (d:c∈b.rows):eQ k (b.del c)/\(cn (b.aC.length+1) c b.bL 0).2=true/\c∈eA b.ck:=by
 have z:=a.c;have h:=a.row d;have o:(cn (b.aC.length+1) c b.bL 0).2=true:=by
  cases r:(cn (b.aC.length+1) c b.bL 0).2 with
  |true=>rfl
  |false=>exact absurd (a.gd.mem_iff.2 d) (zo h.len a.dB.fj a.dB.vh r)
 have p:c∈eA b.ck:=a.nI.mem_iff.2 d;have x:=a1E a.dB o;refine⟨⟨a.right,a.dB.del,?_,(a2D a9r a9r h a.go).1,?_,a.ea.filter _,a5J (a8h _ _) a.dI⟩,o,p⟩
 .exact a2Q a.rh (a.gd.symm.trans x)
 .show(eA (jw b.ck c)).Perm (b.rows.filter λy=>decide (y≠c));rw[a2O a9r a9r h a.go p];exact a.nI.filter _
def eQ.none (a:eQ e j7) (d:q.length=j7.aC.length+1) (b:q∉j7.rows):(cn (j7.aC.length+1) q j7.bL 0).2=false:=by
 cases c:(cn (j7.aC.length+1) q j7.bL 0).2 with
 |false=>rfl
 |true=>exact absurd (a.gd.mem_iff.1 ((vf c).mem_iff.2 a9s)) b
variable{b8:cq}
theorem zT (a:eb b8=true) (b:b8.kind=1):eb ⟨1,b8.table,b8.aC,[]⟩=true:=by unfold eb at a|-;simp_all
def Gu {a:List (List UInt8)} (b:eb ⟨1,B,a,[]⟩=true):eQ e ⟨B,a,[],.nil,none⟩:=⟨b,lE.nil,.refl _,trivial,.refl _,.nil,a5q _⟩
theorem add_eq (b:cP e X) (d:e<=1000) {a:List (List UInt8)} (h:eb ⟨1,B,a,[]⟩=true):
  kd (X.map aS.bA) ⟨B,a,aA,aA⟩=if c3 X B<X.length then .error 4 else if 7<X.length then .error 10 else .ok ((X.take (jx X B)++⟨B,a,[],.nil,none⟩::X.drop (jx X B)).map aS.bA):=by
 have k:fU ⟨B,a,aA,aA⟩=true:=(Gu (e:=0) h).bA a9r;unfold kd;rw[b.cat d,k,Bool.and_self,if_pos rfl]
 dsimp only
 rw[zO b,a4V];by_cases c:c3 X B<X.length;simp_all
 .rw[if_neg (by simpa using c),if_neg c,a2G a9r];by_cases c2:7<X.length
  .rw[if_pos a9r,if_pos c2]
  .rw[if_neg a9r,if_neg c2,a5P,a5j,a7K,a7w];rfl
theorem zU (a:cP e X) (c:e<=1000):cN (X.map aS.bA) B=if c3 X B<X.length then .ok ((X.eraseIdx (c3 X B)).map aS.bA)else .error 3:=by
 unfold cN;rw[a.cat c,if_pos rfl,zO a];by_cases b:c3 X B<X.length
 .rw[if_pos (decide_eq_true b),if_pos b,Gk a b,a6Z,a5P,a7K,a7w]
 grind
theorem pg (a:cP e X) (b:e<=1000) (c:eQ i j7) (d:i<=1000) (h:c3 X j7.name<X.length):ke (X.map aS.bA) j7.bA= .ok ((X.set (c3 X j7.name) j7).map aS.bA):=by unfold ke;rw[a.cat b,c.bA d,Bool.and_self,if_pos rfl];show(if gI (X.map aS.bA) j7.name=true then _ else _)= _;rw[zO a,if_pos (decide_eq_true h)];grind[aS.bA,set,df,Gk,List.map_set]
def cP.zV (c: ∀d∈X,eQ e d) (h:cB (X.map aS.bA)=true):cP e X:=by obtain⟨_,a,b⟩:=oL.1 h;rw[a7p]at a;rw[a4V]at b;exact⟨c,a,b⟩
def cP.le {b c:Nat}{d:List aS} (a:cP b d) (h:b<=c):cP c d:=⟨λk o=>(a.ok k o).le h,a.ea,a.dI⟩
theorem cP.set {b:Nat}{a:List aS} (d:cP b a) (x:b<1000) {c:aS} (h:eQ (b+1) c) (k:c3 a c.name<a.length):cP (b+1) (a.set (c3 a c.name) c):=
 cP.zV (λo p=>by
  rcases a6Y p with r|rfl
  .exact(d.ok o r).le a9r
  .exact h) (G6 (pg d a9r h a9r k))
def tk (a:eb b8=true) (h:b8.kind≠1) (k:b8.kind≠2):(b8.kind=3\/b8.kind=4):=by
 have a:=a;simp only[eb,a4M]at a;have a:=a.2;have c: ∀d:UInt8,b8.kind.toNat=d.toNat->b8.kind=d:=λd b=>a5I.1 b;split at a
 .rename_i b;exact absurd (c 1 b) h
 split at a
 .rename_i b;exact absurd (c 2 b) k
 split at a
 .rename_i b;exact b.imp (c 3) (c 4)
 .cases a
theorem rl (d:cP e X) (y:e<900) (o:cL b8.row):cP (e+1) (ee X b8).2:=by
 have c:=d.le (show e<=e+1 by omega);unfold ee;by_cases p:eb b8=false
 .rw[if_pos p];exact c
 rw[if_neg p];have z:eb b8=true:=by cases E:eb b8<;>simp_all
 by_cases c1:b8.kind=1
 .rw[if_pos c1];have r:=zT z c1;have h:=add_eq d a9r r;by_cases c2:c3 X b8.table<X.length
  .rw[if_pos c2];exact c
  rw[if_neg c2]at h|-;by_cases aI:7<X.length
  .rw[if_pos aI];exact c
  rw[if_neg aI]at h|-;refine cP.zV (λa b=> ?_) (G9 h);simp only[a5c,a5k]at b;rcases b with b|rfl|b
  .exact c.ok a (a5b b)
  .exact Gu r
  .exact c.ok a (a5p b)
 rw[if_neg c1];by_cases c2:X.length<=c3 X b8.table
 .rw[if_pos c2];exact c
 rw[if_neg c2];have k:c3 X b8.table<X.length:=a9r;by_cases aI:b8.kind=2
 .rw[if_pos aI];have h:=zU (B:=b8.table) d a9r;rw[if_pos k]at h;exact cP.zV (λa b=>c.ok a (a7U b)) (G5 (d.cat a9r) h)
 rw[if_neg aI];have b:=d.ok _ (vw k);have C:=tj k;generalize X.getD (c3 X b8.table) default=a at*;by_cases aM:b8.row.length≠a.aC.length+1
 .rw[if_pos aM];exact c
 rw[if_neg aM];have D:bO (a.aC.length+1) b8.row:=⟨a9r,o⟩;rw[<-C]at k|-;by_cases bp:b8.kind=4
 .rw[if_pos bp];by_cases bD:b8.row∈a.rows
  .rw[if_pos bD];exact d.set a9r (c:=a.del b8.row) ((b.del bD).1.le a9r) k
  .rw[if_neg bD];exact c
 .rw[if_neg bp];by_cases bD:a.rows.any (λx=>decide (bR x=bR b8.row))=true
  .rw[if_pos bD];exact c
  .rw[if_neg bD];refine d.set a9r (c:=a.put b8.row) (b.put y D λx o F=>bD ?_).1 k;simp_all
def kU (a:List Int):Nat:=(bR a+9223372036854775808).toNat
theorem zX (a:cL q): -9223372036854775808<=bR q/\bR q<9223372036854775808:=by
 unfold bR;rw[a5u];cases b:q[0]? with
 |none=>simp
 |some c=>exact a c (a4Q b)
theorem zY (a:cL q):IntKind.u64.wrap (IntKind.u64.wrap (bR q)+9223372036854775808)=(kU q:Int)/\(kU q:Int)=bR q+9223372036854775808:=by grind[zX,kU,bR,Int.toNat_of_nonneg,ky]
def Gv (c d:Own) (a:List Int) (b:U) (k:oE a) (o:cL a):AC Tryz.prog 144 [fT.V c,.J (ad a) d] b λp r=>r=b/\p= .aL [il 0 (kU a),.v (.bool true)]:=by
 obtain⟨x,y⟩:=zY o;obtain⟨z,C⟩:=k;have E:=bI (q:=a);have F:=mo (q:=a) a9r d;have D:fT.ok a.length=true:=by rw[r4];exact decide_eq_true ⟨z,C⟩
 have h:=λb=>F0 fT c a.length b a9r a9s;rw[D]at h;unfold bR at x;clear y;refine aO hm Ns ?_;refine br λG L=> ?_;refine db λP S T V=> ?_;refine bk (h _) ?_;rfl
theorem a2R (r x y:Own) (a b:List Int) (c:U) (F:oE a) (l:b.length=a.length) (z:cL a) (C:cL b):AC Tryz.prog 76 [fT.V r,.J (ad a) x,.J (ad b) y] c λk o=>o=c/\k= .v (.bool (decide (bR a<bR b))):=by
 have T:oE b:=by unfold oE at*;omega
 have gd:=(zY z).2;have V:=(zY C).2;have G:=λc=>Gv r x a c F z;have L:=λc=>Gv r y b c T C;obtain⟨m,n⟩:=F;have q:=bI (q:=a);have s:=bI (q:=b);have W:=mo (q:=a) a9r x;have e:=mo (q:=b) a9r y;have P:a.getD 0 0=bR a:=rfl;have S:b.getD 0 0=bR b:=rfl;rw[P]at W;rw[S]at e;have t:kU a<kU b↔bR a<bR b:=a9r;have u:kU a=kU b↔bR a=bR b:=a9r;have cc:kU a<18446744073709551616/\kU b<18446744073709551616:=by have G:=zX z;have L:=zX C;omega
 clear P S gd V;generalize kU a=d at*;generalize kU b=h at*;generalize bR a=D at*;generalize bR b=f at*;have E: ∀p:Nat,p<18446744073709551616->dC [(2,c6.int IntKind.u64)] [R.v (Value.int IntKind.u64 0),R.v (Value.int IntKind.u64 (p:Int))]:=λp v=>by
  simp[dC,c6.tx,c6.fit]
 have w:=E d cc.1;have A:=E h cc.2;clear E;have g:peq (R.agg [R.v (Value.int IntKind.u64 0),R.v (Value.int IntKind.u64 (d:Int))]) (R.agg [R.v (Value.int IntKind.u64 0),R.v (Value.int IntKind.u64 (h:Int))])=decide (d=h):=by grind[peq]
 refine aO hm Lt ?_;refine br λB H=> ?_;refine bk (G _) ?_;refine db λI K p M=> ?_;refine bk (L _) ?_;refine hq λN O ca Q X Y=> ?_;have i: ∀c,AC Tryz.prog 145 [il 0 d,il 0 h] c λk o=>o=c/\k= .v (.bool (decide (D<f))):=λc=>(a0w 0 d 0 h c).mono λk o j=>⟨j.1,by simp_all⟩;rw[g];refine aH (λD=> ?_) λD=> ?_
 .refine bk (i _) ?_;trivial
 .trivial
theorem a2S (c: ∀a<e,¬bR q<bR (O.getD a [])) (b:e<=O.length) (d:e<O.length->bR q<bR (O.getD e [])):gT q O=O.take e++q::O.drop e:=by
 induction O generalizing e with
 |nil=>simp at b;subst b;rfl
 |cons h O ih=>
  cases e with
  |zero=>grind[bR,gT,List.takeWhile_cons,List.dropWhile_cons]
  |succ e=>have o: ¬bR q<bR h:=c 0 a9r;have:=ih (λa p=>c (a+1) a9r) (by simpa using b) (λk=>d (by simpa using k));simp_all [gT,a5B,a6f,decide_false,a5y,if_true,a5K,a6E]
theorem a2T (d:List (List Int)) (c:List R) (i k:Own) (j:Nat) (a:U) (n:az isRow d c) (t: ∀g∈d,bO j g) (e:1<=j) (f:j<=8) (b:d.length<=100000):
  AC Tryz.prog 44 [fT.V k,.J c i] a λg o=>a.sub o/\ ∃b h,az isRow (rk d) b/\g= .J b h:=by
 have b:=n.len;have q: ∀a,AC Tryz.prog 42 [fT.V k,.v (.int .i64 (j:Int))] a λg o=>o=a/\g= .v (.bool true):=λa=>by
  have:=F0 fT k j a a9r a9s;rw[r4,decide_eq_true ⟨e,f⟩]at this;exact this
 have b:(fT.V k).cells= [.v (.int .u8 0),.v (.int .i64 0),.J (ad []) k]:=rfl;refine aO hm KF ?_;refine br λb e=> ?_;have v: ∀p,(a.set b (.cells (fT.V k).cells)).sub p->p.read b=some [.v (.int .u8 0),.v (.int .i64 0),.J (ad []) k]:=λp f=>U.af (f _ _ (U.ah _ _ _));have z:=U.ae (Y:= .cells (fT.V k).cells) (U.a1 (f:=a)) e;generalize a.set b _=m at*;refine gP [1,2,5] (λe:Nat=> [(6,.v (.int .i64 e))]) (λe=>e<=d.length) (λe=>d.length - e) 0 a9r aU ?_
 .rintro e w x;have A:=v m U.a1;refine aa ?_;refine aH (λu=> ?_) λu=> ?_
  .have a:d[e]? =some (d.getD e []):=by simp_all
   have b:d[0]? =some (d.getD 0 []):=by grind
   obtain⟨_,B,r,rfl⟩:=n.get a;obtain⟨_,s,l,rfl⟩:=n.get b;have C:=(t _ (a4Q a)).len;have h:=(t _ (a4Q b)).len;have b:=bI (q:=d.getD e []);have b:=bI (q:=d.getD 0 []);generalize d.getD e []=h at*;generalize d.getD 0 []=b at*;refine aa ?_;have y:cS 1 (.J c i) (.v (.int .i64 0))=some (.bW [.J (ad b) l]):=by show cS 1 _ (.v (.int .i64 ((0:Nat):Int)))= _;rw[o3,s];rfl
   refine bk (q _) ?_;exact⟨e+1,a9r,rfl,a9r⟩
  .refine cj [1,2] (λb:Nat×List R×Own=> [(7,.v (.int .i64 b.1)),(5,.J b.2.1 b.2.2)]) (λb o=>m.sub o/\b.1<=d.length/\ ∃c,(d.take b.1).foldl (λc h=>gT h c) []=c/\c.length=b.1/\(∀g∈c,bO j g)/\az isRow c b.2.1) (λb=>d.length - b.1) (0,[],.nil) ⟨⟨U.a1,a9r,[],rfl,rfl,a9s,trivial⟩,aU⟩ ?_;rintro⟨e,m,bE⟩ p ⟨s,w,c,q,g,y,i⟩ x
   dsimp only at w q g i|-
   have g:=i.len;refine aa ?_;refine aH (λu=> ?_) λu=> ?_
   .have a:d[e]? =some (d.getD e []):=by simp_all
    obtain⟨_,B,r,rfl⟩:=n.get a;have g:=t _ (a4Q a);have C:=g.len;have w:=g.jV;have u:=eU (a:=d) (b:= []) (e:=e) a9r;generalize d.getD e []=h at*;have el: ∀a,a<c.length-> ∃l,m[a]? =some (.J (ad (c.getD a [])) l):=λa n=>by
     obtain⟨_,g,l,rfl⟩:=i.get (i:=a) (x:=c.getD a []) (by simp[List.getD,n]);exact⟨l,g⟩
    have B: ∀a,a<c.length->(c.getD a []).length=j:=λa n=>(y _ (by simp[List.getD,n])).len;have C: ∀a,a<c.length->cL (c.getD a []):=λa n=>(y _ (by simp[List.getD,n])).jV;refine cj [1,2,5,7] (λb:Nat×List R×Own=> [(9,.v (.int .i64 b.1)),(8,.J b.2.1 b.2.2)]) (λb o=>b.1<=c.length/\(∀j<b.1,¬bR h<bR (c.getD j []))/\az isRow (c.take b.1) b.2.1/\bj p o 1 b.2.1 b.2.2) (λb=>c.length - b.1) (0,[],.nil) ⟨⟨a9r,λj f=>by simp at f,trivial,bj.nil U.a1⟩,aU⟩ ?_;rintro⟨a,p,on⟩ y ⟨n,t,j,o⟩ x
    dsimp only at n t j o|-
    have A:=v y (U.aq s o.sub);have v:p.length=a:=by rw[j.len,a4N];omega
    have v: ¬(a<c.length/\ ¬bR h<bR (c.getD a []))->gT h c=c.take a++h::c.drop a:=λf=>a2S t n λt=>Classical.not_not.1 λn=>f ⟨t,n⟩;by_cases jT:(a:Int)<(e:Int)
    .obtain⟨l,t⟩:=el a a9r;have t:=B a a9r;have t:=C a a9r;have y:=eU (a:=c) (b:= []) (e:=a) a9r;generalize x:c.getD a []=b at*;refine aa ?_;refine bk (a2R k r l h b _ (by unfold oE;omega) a9r w t) ?_;refine aH (λc2=> ?_) λc2=> ?_
     .refine jN (λw k=> ?_) (d:=λg c=>by rw[a4Z]at c;subst c;rfl);refine dq (o.mono (U.ae U.a1 k)) (j.cells λ_ _=>isRow.cells) (λg c=>by rw[a4Z]at c;subst c;rfl) a9t a9t λt x n=> ?_;refine aa ?_;refine⟨(a+1,p++ [.J (ad b) l],t),⟨by simp only;omega,?_,?_,n⟩,⟨rfl,rfl⟩,by simp only;omega⟩;grind
      .simp only[y];exact j.snoc ⟨_,rfl⟩
     .have g:=v (by simpa using λ_=>c2);refine jN (λw k=> ?_) (d:=λg c=>by rw[a4Z]at c;subst c;rfl);refine dq (o.mono (U.ae U.a1 k)) (j.cells λ_ _=>isRow.cells) (λg c=>by rw[a4Z]at c;subst c;rfl) a9t a9t λt x n=> ?_;have y:dO 1 (.J m bE) (some (.v (.int .i64 (a:Int)))) none=some (.J (m.drop a) .any):=pa a9r (i.cells λ_ _=>isRow.cells);refine aa ?_;refine dq n (λg c=>by rcases a5c.1 c with f|f;exact j.cells (λ_ _=>isRow.cells) g f;rw[a4Z]at f;subst f;rfl) ((i.drop a).cells λ_ _=>isRow.cells) a9t a9t λb A l=> ?_;refine aa ?_;refine⟨(e+1,p++ [.J (ad h) r]++m.drop a,b),⟨U.aq s l.sub,by simp only;omega,_,rfl,?_,?_,?_⟩,⟨rfl,rfl⟩,by simp only;omega⟩;grind;grind
      .simp only[u,a6P,q,a5Q,a7W,g];rw[a8d];exact(j.snoc ⟨_,rfl⟩).append (i.drop a)
    .have g:=v a9r;refine aa ?_;refine jN (λw k=> ?_) (d:=λg c=>by rw[a4Z]at c;subst c;rfl);refine dq (o.mono (U.ae U.a1 k)) (j.cells λ_ _=>isRow.cells) (λg c=>by rw[a4Z]at c;subst c;rfl) a9t a9t λt x n=> ?_;have y:dO 1 (.J m bE) (some (.v (.int .i64 (a:Int)))) none=some (.J (m.drop a) .any):=pa a9r (i.cells λ_ _=>isRow.cells);refine aa ?_;refine dq n (λg c=>by rcases a5c.1 c with f|f;exact j.cells (λ_ _=>isRow.cells) g f;rw[a4Z]at f;subst f;rfl) ((i.drop a).cells λ_ _=>isRow.cells) a9t a9t λb A l=> ?_;refine aa ?_;refine⟨(e+1,p++ [.J (ad h) r]++m.drop a,b),⟨U.aq s l.sub,by simp only;omega,_,rfl,?_,?_,?_⟩,⟨rfl,rfl⟩,by simp only;omega⟩;grind;grind
     .simp only[u,a6P,q,a5Q,a7W,g];rw[a8d];exact(j.snoc ⟨_,rfl⟩).append (i.drop a)
   .obtain rfl:e=d.length:=a9r;rw[a5h]at q;refine⟨U.aq z s,m,bE,by rw[rk,q];exact i,rfl⟩
def a2U {a:Nat->Bool}:(List.range (e+1)).all a=(a 0&&(List.range e).all λb=>a (b+1)):=by rw[a8S,List.all_cons,a9o];rfl
theorem Gw (b:List UInt8): ∀(c a:Nat),b.length<c+a->lx ⟨b.toArray⟩ c a=(List.range (b.length - a)).all λk=>nt (a+k) (b.getD (a+k) 0)
 |0,a,o=>by
  rw[show b.length - a=0 by omega];rfl
 |c+1,a,o=>by
  have p:(⟨b.toArray⟩:ByteArray).size=b.length:=rfl;rw[lx,p];by_cases d:a<b.length
  .rw[if_pos d];obtain⟨h,hm⟩: ∃h,b.length - a=h+1:=⟨b.length - a - 1,a9r⟩;rw[hm,a2U,a6z];have r:b.getD a 0=b[a]:=by simp[List.getD,d]
   rw[r];by_cases cw:b[a].toNat<128
   .rw[EL b a d cw]
    dsimp only
    rw[Gw b c (a+1) a9r,show b.length -(a+1)=h by omega];have x:fS a (b[a].toNat:Int)=nt a b[a]:=by unfold fS nt;grind
    grind
   grind[decode_high,fS,Utf8.decode,decide_eq_false,nt]
  simp_all
theorem Gx (a:List UInt8):nu a=jY a:=by unfold nu jY;rw[Gw a (a.length+1) 0 a9r];grind
theorem a2V {a:List (List UInt8)} (b:e<a.length):ly a e=ml a e:=by unfold ly ml;rw[Gx];congr 2;rw[a7x];simp only[a4Y,a6b,a6n,decide_eq_false_iff_not];grind[hm,List.getElem_of_mem,List.length_take,List.getD,List.mem_iff_getElem]
theorem a2W (a:List (List UInt8)):(List.range a.length).all (ly a)=(List.range a.length).all (ml a):=by rw[a7x];grind[List.all_eq_true,a2V]
theorem a2X (a:cq):oC a=eb a:=by
 unfold oC eb yk ns;rw[Gx,a2W];congr 1;by_cases b:a.kind.toNat=1
 .rw[if_pos b,if_pos b,Bool.and_assoc];grind
 rw[if_neg b,if_neg b];by_cases c:a.kind.toNat=2;simp_all;grind
def ef (c:Nat) (d h:U):Prop:= ∀a b,a≠c->d a=some b->h a=some b
theorem ef.of {s:U} (a:s.sub f):ef e s f:=λb c _ d=>a b c d
theorem ef.trans (d:ef e f t) (h:ef e t e7):ef e f e7:=λa b c k=>h a b c (d a b c k)
theorem ef.set {a:Nat}{b c:U}{h:bq} (k:ef a b c):ef a b (c.set a h):=λo p d r=>by rw[U.an _ _ d];exact k o p d r
def ft (a:List R) (b:Nat) (d:R) (c:Nat):List R:=if c<=b then a.take c else(a.take b++d::a.drop b).take (c+1)
def a2Y (b:e<i) (a:g[e]? =some b3):ft g i n (e+1)=ft g i n e++ [b3]:=by unfold ft;rw[if_pos a9r,if_pos a9r];obtain⟨c,rfl⟩:=a4R.1 a;simp
theorem a2Z (a:g[e]? =some b3):ft g e n (e+1)=ft g e n e++ [n]++ [b3]:=by unfold ft;obtain⟨b,rfl⟩:=a4R.1 a;rw[if_neg a9r,if_pos a9r,a5e b];grind
theorem a3a (b:e<i) (a:g[i]? =some b3):ft g e n (i+1)=ft g e n i++ [b3]:=by unfold ft;obtain⟨c,rfl⟩:=a4R.1 a;rw[if_neg a9r,if_neg a9r];have d:(g.take e++n::g.drop e).length=g.length+1:=a9t;rw[a5X (show i+1<(g.take e++n::g.drop e).length by omega)];congr 2;grind
def a3b (a:e<=g.length):(if e<g.length then ft g e n g.length else ft g e n g.length++ [n])=g.take e++n::g.drop e:=by
 split
 .unfold ft;rw[if_neg a9r,a4K a9t]
 .obtain rfl:e=g.length:=a9r;unfold ft;rw[if_pos a9r];simp
def a3c (a:az (gL f) X g) (h:n.cells.length=1):aN 1 (ft g e n i):=λc b=>by
 have d:=zP a;unfold ft at b;split at b
 .exact d c (a5b b)
 .have:=a5b b;rcases a5c.1 this with a|a
  .exact d c (a5b a)
  .rcases a5k.1 a with rfl|a
   .exact h
   .exact d c (a5p a)
theorem a3d:(ft g i n e).length<=e+1:=by unfold ft;grind
def a3e: ∀a<jx X B,bZ B (X.getD a default).name=false:=by
 unfold jx
 induction X with
 |nil=>intro a b;simp at b
 |cons d X ih=>
  intro a b;rw[a5B]at b;cases c:bZ B d.name with
  |true=>simp[c]at b
  |false=>
   simp only[c,a5y,if_true,a4O]at b;cases a with
   |zero=>simpa using c
   |succ a=>simpa using ih a a9r
def a3f:jx X B<=X.length:=(List.takeWhile_sublist _).length_le
theorem a3g (a:jx X B<X.length):bZ B (X.getD (jx X B) default).name=true:=by
 induction X with
 |nil=>simp at a
 |cons b X ih=>
  unfold jx at a|-;rw[a5B]at a|-;cases c:bZ B b.name with
  |true=>simp[c]
  |false=>simp_all [a5y,if_true,a4O,jx]
theorem a3h (a:List aS) (b:List UInt8):(c3 a b<a.length->pR a b=(c3 a b:Int))/\(a.length<=c3 a b->pR a b= -1):=by simp_all [pR,if_pos,if_neg]
def a3i (a:UInt8) (b:Int):jb BinOp.eql (ak a) (R.v (Value.int IntKind.u8 b))=some (.v (.bool (decide ((a.toNat:Int)=b)))):=by simp only[ak,rZ];rfl
theorem a3j (a:g[e]? =some n) (b:e≠i):(g.take (e+1)).eraseIdx i=(g.take e).eraseIdx i++ [n]:=by obtain⟨c,rfl⟩:=a4R.1 a;grind[List.take_succ_eq_append_getElem,Nat.lt_or_ge,List.eraseIdx_append_of_lt_length,List.length_take,List.eraseIdx_of_length_le]
theorem a3k:(g.take (e+1)).eraseIdx e=(g.take e).eraseIdx e:=by grind[List.eraseIdx_eq_take_drop_succ,List.drop_eq_nil_of_le,List.length_take,Nat.min_eq_left,Nat.min_self]
variable{b0:Type}
def az.erase {b:b0->R->Prop}{c:List b0} (a:Nat) (d:az b c g):az b (c.eraseIdx a) (g.eraseIdx a):=by rw[a6Z,a6Z];exact(d.take a).append (d.drop (a+1))
def vx (a:f e=some (.cells [n])) (b:az (gL f) X g):fF (f.set e (.cells [.J g N])) e X:=
 ⟨g,N,U.ah _ _ _,b.mono λ_ _ c=>c.gK (gJ.set a rfl)⟩
def Gy {a:List (List UInt8)} (b:f e=some (.cells [bd B,.J (bF a) N,.J [] .nil,.v (.pointer none),.v (.pointer none)])):gL f ⟨B,a,[],.nil,none⟩ (.ptr e 0):=⟨e,N,[],.nil,_,_,rfl,b,trivial,rfl,rfl⟩
theorem a3l (a:az (gL f) X g):bN t 1 (.J g N)=some (g.length,g):=by
 have p: ∀b∈g,b.cells= [b]:=λb d=>by
  obtain⟨h,k,rfl⟩:=a5A d;have r:=a.len;obtain⟨o,c,x,_,_,_,_,_,rfl,_⟩:=a.get (a4J (show h<X.length by omega));rw[a4J k]at c;rw[a4I c];rfl
 have y:flat g=g:=by
  unfold flat;clear a
  induction g with
  |nil=>rfl
  |cons o g ih=>simp_all
 simp_all [bN,if_pos,a4Y,decide_eq_true]
def kf (a:Nat) (p c:U) (r:List aS):Prop:= ∃b d,az (gL b) r d/\(∃x,b a=some (.cells [x]))/\ef a p b/\ef a b c/\
 ((∃y,c a=some (.cells [.J d y]))\/ ∃h k z o,b h=none/\c a=some (.cells [.al h k z 1])/\c h=some (.cells o)/\k<=o.length/\dL 1 k o=d)
theorem kf.of {s:U}{ds:List aS} (a:fF f e ds) (c:ef e s f):kf e s f ds:=by obtain⟨d,h,b,k⟩:=a;exact⟨f,d,k,⟨_,b⟩,c,λ_ _ _ a=>a,.inl ⟨h,b⟩⟩
theorem a3m (a:U) (G b:Nat) (f:List aS) (c:fF a G f) (l1:cP b f) (d:b<900) (j:cg) (g:j.d.Fit) (M:cL j.d.row):
  AC Tryz.prog 21 [.ptr G 0,j.V] a λk D=>kf G a D (ee f j.d).2/\k= .v (.int .i64 (ee f j.d).1):=by
 have e:=(ee.eq_1 f j.d).symm;generalize ee f j.d=n0 at*;have d:=λa=>ZD j g a;rw[a2X]at d;have l5:=l1.dI;obtain⟨o,k6,i,m⟩:=c;have j9:=m.len;have b:j.V= .agg [ak j.d.kind,bd j.d.table,.J (bF j.d.aC) j.gy,.J (ad j.d.row) j.dp]:=rfl;rw[b]at d|-;clear b;obtain⟨b,b,b,b⟩:=g;generalize k7:j.d.kind=u at*;generalize b:j.d.table=b at*;generalize g:j.d.aC=h at*;generalize g:j.d.row=l at*;refine aO hm K7 ?_;refine br λk0 g=> ?_;have v:=U.ae (Y:= .cells [ak u,bd b,.J (bF h) j.gy,.J (ad l) j.dp]) (U.a1 (f:=a)) g;have aI:=U.ah a k0 (.cells [ak u,bd b,.J (bF h) j.gy,.J (ad l) j.dp]);have n:G≠k0:=by rintro rfl;rw[i]at g;cases g
 generalize a.set k0 _=w at*;have p:=v _ _ i;have s:az (gL w) f o:=m.mono λ_ _ c=>c.sub v;have a:=a2J w G f ⟨o,k6,p,s⟩ b a9r;have B:=U.af aI;have eM:=U.af p;obtain⟨l2,n1⟩:=a3h f b;have N:fF w G f:=⟨o,k6,p,s⟩;cases cw:eb j.d with
 |false=>rw[cw]at d;rw[if_pos cw]at e;refine bk (d w) ?_;exact⟨_,U.a1,kf.of (by rw[<-e];exact N) (ef.of v),by rw[<-e]⟩
 |true=>
  rw[cw]at d;rw[if_neg (by rw[cw];simp)]at e;refine bk (d w) ?_;generalize pR f b=n2 at*;refine bk a ?_;clear d a;refine aH (λl3=> ?_) λl3=> ?_
  .have k1:u=1:=a5I.1 (by grind);rw[if_pos k1]at e;refine aH (λE=> ?_) λE=> ?_
   .rw[if_pos a9r]at e;exact⟨_,U.a1,kf.of (by rw[<-e];exact N) (ef.of v),by rw[<-e]⟩
   rw[if_neg a9r]at e;refine aH (λc2=> ?_) λc2=> ?_
   .rw[if_pos a9r]at e;exact⟨_,U.a1,kf.of (by rw[<-e];exact N) (ef.of v),by rw[<-e]⟩
   rw[if_neg a9r]at e;have a:=a3f (X:=f) (B:=b);have r:=a3e (X:=f) (B:=b);have A:=a3g (X:=f) (B:=b);generalize jx f b=d at*;refine cJ U.a1 (by simp[aN]) λa a n=> ?_;refine aa ?_;refine dq (g:= []) n (λ_ c=>by cases c) ti (by rw[a4T,hD];omega) (by rw[a4T,hD];omega) λi m a=> ?_;rw[a5d]at a|-;have B:=U.af (a.sub _ _ aI);refine aa ?_;refine aP λg L=> ?_;have O:(m.set g (.cells (R.agg [bd b,.J (bF h) i,.J [] .nil,.v (.pointer none),.v (.pointer none)]).cells)) g=some (.cells [bd b,.J (bF h) i,.J [] .nil,.v (.pointer none),.v (.pointer none)]):=U.ah _ _ _;have P:=U.aq a.sub (U.ae (Y:= .cells (R.agg [bd b,.J (bF h) i,.J [] .nil,.v (.pointer none),.v (.pointer none)]).cells) (U.a1 (f:=m)) L);have h:G≠g:=by rintro rfl;rw[a.sub _ _ p]at L;cases L
   refine aa ?_;have q:ft o d (.ptr g 0) 0= []:=by unfold ft;rw[if_pos (a5q _)];rfl
   have t:decide (d<0)=false:=a9s;generalize m.set g _=i at*;clear n a L B;refine cj [0,3,8] (λh:Nat×Own=> [(6,.J (ft o d (.ptr g 0) h.1) h.2),(7,.v (.bool (decide (d<h.1)))),(9,.v (.int .i64 (h.1:Int)))]) (λh D=>h.1<=f.length/\bj i D 1 (ft o d (.ptr g 0) h.1) h.2) (λh=>f.length - h.1) (0,.nil) ⟨⟨a5q _,by rw[q];exact bj.nil U.a1⟩,aU⟩ ?_;rintro⟨a,bE⟩ X ⟨Y,i⟩ l4
   dsimp only at Y i|-
   have l6:=a3d (g:=o) (i:=d) (e:=a) (n:= .ptr g 0);have Q:=a3c (e:=d) (i:=a) (n:= .ptr g 0) s rfl;have eM:=U.af (i.sub _ _ (P _ _ p));have m:=U.af (i.sub _ _ O);clear q t;refine aa ?_;refine aH (λaI=> ?_) λaI=> ?_
   .have T:a<f.length:=a9r;have S:f[a]? =some (f.getD a default):=by simp[List.getD,T]
    obtain⟨_,V,k8,C,l7,l8,k2,k3,rfl,F,_,_,_⟩:=s.get S;have H:=U.af (i.sub _ _ (P _ _ F));have y:=(vj b (f.getD a default).name).1;rcases a8z a d with I|I|I
    .have n:=r a I;have r:=a2Y (n:= .ptr g 0) I V;have Z: ¬d<a:=a9r;have z: ¬d<a+1:=a9r;generalize ft o d (.ptr g 0) a=k4 at*;rw[n]at y;refine aa ?_;refine cJ U.a1 (by simp[aN,R.cells]) λW K x=> ?_;refine aa ?_;refine dq (i.mono x.sub) Q (by simp[aN,R.cells]) a9t a9t λt q m=> ?_;refine aa ?_;exact⟨(a+1,t),⟨by simp only;omega,by simp only[r];exact m⟩,⟨by simp only[r],by simp[z],rfl⟩,by simp only;omega⟩
    .subst I;have n:=A T;have r:=a2Z (n:= .ptr g 0) V;have Z: ¬a<a:=a9r;generalize ft o a (.ptr g 0) a=k4 at*;rw[n]at y;have z:a<a+1:=a9r;refine aa ?_;refine cJ U.a1 (by simp[aN,R.cells]) λW K x=> ?_;refine aa ?_;refine dq (i.mono x.sub) Q (by simp[aN,R.cells]) a9t a9t λt q m=> ?_;have eM:=U.af (m.sub _ _ (P _ _ p));refine aa ?_;refine cJ U.a1 (by simp[aN,R.cells]) λk9 Z y=> ?_;refine aa ?_;refine dq (m.mono y.sub) (λn l0=>by rcases a5c.1 l0 with c|c;exact Q n c;rw[a4Z]at c;subst c;rfl) (by simp[aN,R.cells]) a9t a9t λt A m=> ?_;refine aa ?_;exact⟨(a+1,t),⟨by simp only;omega,by simp only[r];exact m⟩,⟨by simp only[r],by simp[z],rfl⟩,by simp only;omega⟩
    .have r:=a3a (n:= .ptr g 0) I V;have z:d<a+1:=a9r;generalize ft o d (.ptr g 0) a=k4 at*;refine aa ?_;refine cJ U.a1 (by simp[aN,R.cells]) λW K x=> ?_;refine aa ?_;refine dq (i.mono x.sub) Q (by simp[aN,R.cells]) a9t a9t λt q m=> ?_;refine aa ?_;exact⟨(a+1,t),⟨by simp only;omega,by simp only[r];exact m⟩,⟨by simp only[r],by simp[z],rfl⟩,by simp only;omega⟩
   .obtain rfl:a=f.length:=a9r;have k5:=a3b (g:=o) (e:=d) (n:= .ptr g 0) a9r;rw[j9]at k5;have l9:=U.aJ (i.sub _ _ (P _ _ p));by_cases I:d<f.length
    .rw[if_pos I]at k5;refine aa ?_;have z:=U.aq P i.sub;refine⟨_,U.a1,kf.of ?_ (ef.of (U.aq v z)).set,by rw[<-e]⟩;rw[<-e];exact vx (z _ _ p) (((s.mono λ_ _ c=>c.sub z).take d).append ⟨Gy (i.sub _ _ O),(s.mono λ_ _ c=>c.sub z).drop d⟩)
    .rw[if_neg I]at k5;refine aa ?_;refine cJ U.a1 (by simp[aN,R.cells]) λW K x=> ?_;refine aa ?_;refine dq (i.mono x.sub) Q (by simp[aN,R.cells]) a9t a9t λt q m=> ?_;have l9:=U.aJ (m.sub _ _ (P _ _ p));refine aa ?_;have z:=U.aq P m.sub;refine⟨_,U.a1,kf.of ?_ (ef.of (U.aq v z)).set,by rw[<-e]⟩;rw[<-e];exact vx (z _ _ p) (((s.mono λ_ _ c=>c.sub z).take d).append ⟨Gy (m.sub _ _ O),(s.mono λ_ _ c=>c.sub z).drop d⟩)
  .have k1: ¬u=1:=λn=>l3 (by rw[n];rfl);rw[if_neg k1]at e;refine aH (λE=> ?_) λE=> ?_
   .have I:f.length<=c3 f b:=by omega
    rw[if_pos I]at e;exact⟨_,U.a1,kf.of (by rw[<-e];exact N) (ef.of v),by rw[<-e]⟩
   have T:c3 f b<f.length:=by omega
   obtain rfl:=l2 T;rw[if_neg a9r]at e;clear l2 n1 E;have I:=vw T;generalize c3 f b=d at*;refine aH (λb=> ?_) λb=> ?_
   .have k5:u=2:=a5I.1 (by grind);rw[if_pos k5]at e;have P:([]:List R).eraseIdx d= []:=List.eraseIdx_nil;refine cj [0,3,5] (λh:Nat×Own=> [(10,.J ((o.take h.1).eraseIdx d) h.2),(11,.v (.int .i64 (h.1:Int)))]) (λh D=>h.1<=f.length/\bj w D 1 ((o.take h.1).eraseIdx d) h.2) (λh=>f.length - h.1) (0,.nil) ⟨⟨a5q _,by grind[bj.nil,U.a1]⟩,aU⟩ ?_;clear P;rintro⟨a,bE⟩ X ⟨Y,i⟩ l4
    dsimp only at Y i|-
    have l6:((o.take a).eraseIdx d).length<=a:=a5J (List.length_eraseIdx_le _ _) (by rw[a4N];omega);have Q:aN 1 ((o.take a).eraseIdx d):=λn l0=>zP s n (a5b (a7U l0));have eM:=U.af (i.sub _ _ p);refine aa ?_;refine aH (λaI=> ?_) λaI=> ?_
    .have P:a<f.length:=a9r;have S:f[a]? =some (f.getD a default):=by simp[List.getD,P]
     obtain⟨_,V,k8,C,l7,l8,k2,k3,rfl,F,_,_,_⟩:=s.get S;by_cases jT:a=d
     .subst jT;have r:=a3k (g:=o) (e:=a);generalize (o.take a).eraseIdx a=k4 at*;refine aa ?_;exact⟨(a+1,bE),⟨by simp only;omega,by simp only[r];exact i⟩,⟨by simp only[r],rfl⟩,by simp only;omega⟩
     .have r:=a3j (i:=d) V jT;generalize (o.take a).eraseIdx d=k4 at*;have P: ¬(a:Int)=(d:Int):=a9r;refine aa ?_;refine cJ U.a1 (by simp[aN,R.cells]) λW K x=> ?_;refine aa ?_;refine dq (i.mono x.sub) Q (by simp[aN,R.cells]) a9t a9t λt q m=> ?_;refine aa ?_;exact⟨(a+1,t),⟨by simp only;omega,by simp only[r];exact m⟩,⟨by simp only[r],rfl⟩,by simp only;omega⟩
    .obtain rfl:a=f.length:=a9r;rw[<-j9,a5h]at i|-;have l9:=U.aJ (i.sub _ _ p);refine aa ?_;have z:=i.sub;refine⟨_,U.a1,kf.of ?_ (ef.of (U.aq v z)).set,by rw[<-e]⟩;rw[<-e];exact vx (z _ _ p) ((s.mono λ_ _ c=>c.sub z).erase d)
   .have k5: ¬u=2:=λn=>b (by rw[n];rfl);rw[if_neg k5]at e;have b:f[d]? =some (f.getD d default):=by simp[List.getD,T]
    have z:=l1.ok _ I;obtain⟨_,V,k8,C,l7,l8,k2,k3,rfl,F,P,l0,l1⟩:=s.get b;have H:=U.af F;have b:=l0.cells;have eR:=l1.cells;have b:=z.c;have l2:=λk c=>z.row (q:=k) c;have b:=z.dI;have b:=P.len;generalize b:f.getD d default=b at*;have I:=hD (a:=b.aC);have I:=bI (q:=l);refine aa ?_;refine aH (λE=> ?_) λE=> ?_
    .rw[if_pos a9r]at e;exact⟨_,U.a1,kf.of (by rw[<-e];exact N) (ef.of v),by rw[<-e]⟩
    rw[if_neg a9r]at e;have T:l.length=b.aC.length+1:=a9r;have fI:=mo (q:=l) a9r j.dp;rw[show l.getD 0 0=bR l from rfl]at fI;have I:decide (l∈([]:List (List Int)))=false:=a9s;refine cj [0,3,5,12] (λh:Nat×List R×Own=> [(13,.J h.2.1 h.2.2),(14,.v (.bool (decide (l∈b.rows.take h.1)))),(15,.v (.int .i64 (h.1:Int)))]) (λh D=>h.1<=b.rows.length/\bj w D 1 h.2.1 h.2.2/\az isRow ((b.rows.take h.1).filter λk=>decide (k≠l)) h.2.1/\(u=3-> ∀k∈b.rows.take h.1,bR k≠bR l)) (λh=>b.rows.length - h.1) (0,[],.nil) ⟨⟨a5q _,bj.nil U.a1,trivial,λ_ k c=>by cases c⟩,aU⟩ ?_;clear I;rintro⟨a,I,bE⟩ X ⟨Y,i,h,k4⟩ l4
    dsimp only at Y i h k4|-
    have H:=U.af (i.sub _ _ F);have B:=U.af (i.sub _ _ aI);have l6:I.length<=a:=by rw[h.len];grind
    refine aa ?_;refine aH (λbp=> ?_) λbp=> ?_
    .have V:a<b.rows.length:=a9r;have S:b.rows[a]? =some (b.rows.getD a []):=by simp[List.getD,V]
     obtain⟨_,r,Q,rfl⟩:=P.get S;have r:=(l2 _ (a4Q S)).len;have r:=eU (a:=b.rows) (b:= []) (e:=a) V;have V:b.rows.getD a []∈b.rows:=a4Q S;generalize b.rows.getD a []=k at*;have P:=mo (q:=k) a9r Q;rw[show k.getD 0 0=bR k from rfl]at P;refine aa ?_;refine aH (λbD=> ?_) λbD=> ?_
     .refine aH (λS=> ?_) λS=> ?_
      .have P:u=3:=a5I.1 (by grind);rw[if_neg (by rw[P];decide),if_pos (a7I.2 ⟨k,V,decide_eq_true bD⟩)]at e;exact⟨_,U.a1,kf.of (by rw[<-e];exact N.sub i.sub) (ef.of (U.aq v i.sub)),by rw[<-e]⟩
      have V: ¬u=3:=λn=>S (by rw[n];rfl);refine bk (np k l Q j.dp _ a9r) ?_;refine aH (λcd=> ?_) λS=> ?_
      .subst cd;exact⟨(a+1,I,bE),⟨by simp only;omega,i,by simp_all,λc=>absurd c id⟩,⟨rfl,by simp[r],rfl⟩,by simp only;omega⟩
      refine cJ U.a1 (by simp[aN,R.cells]) λW K x=> ?_;refine aa ?_;refine dq (i.mono x.sub) (h.cells λ_ _=>isRow.cells) (by simp[aN,R.cells]) a9t a9t λt q m=> ?_;refine aa ?_;refine⟨(a+1,I++ [.J (ad k) Q],t),⟨by simp only;omega,m,by simp only[r,a7T];rw[a8e,if_pos (by simpa using S),a8Q];exact h.snoc ⟨_,rfl⟩,λP Y V=> ?_⟩,⟨rfl,by grind,rfl⟩,by simp only;omega⟩;exact False.elim P
     .have S:k≠l:=λn=>bD (by rw[n]);refine cJ U.a1 (by simp[aN,R.cells]) λW K x=> ?_;refine aa ?_;refine dq (i.mono x.sub) (h.cells λ_ _=>isRow.cells) (by simp[aN,R.cells]) a9t a9t λt q m=> ?_;refine aa ?_;refine⟨(a+1,I++ [.J (ad k) Q],t),⟨by simp only;omega,m,by simp only[r,a7T];rw[a8e,if_pos (by simpa using S),a8Q];exact h.snoc ⟨_,rfl⟩,λP Y V=> ?_⟩,⟨rfl,by simp only[r,a5c,a4Z];congr 2;exact decide_eq_decide.2 ⟨.inl,λc=>c.resolve_right λn=>S n.symm⟩,rfl⟩,by simp only;omega⟩;rw[r]at V;rcases a5c.1 V with c|c
      .exact k4 P Y c
      .obtain rfl:=a4Z.1 c;exact bD
    .obtain rfl:a=b.rows.length:=a9r;rw[a5h]at h k4|-;refine aP λg L=> ?_;have a:=U.bG i.sub L;have O:(X.set g (.cells (R.agg [bd b.name,.J (bF b.aC) C,.J [] .nil,.v (.pointer none),.v (.pointer none)]).cells)) g=some (.cells [bd b.name,.J (bF b.aC) C,.J [] .nil,.v (.pointer none),.v (.pointer none)]):=U.ah _ _ _;have r:=U.ae (Y:= .cells (R.agg [bd b.name,.J (bF b.aC) C,.J [] .nil,.v (.pointer none),.v (.pointer none)]).cells) (U.a1 (f:=X)) L;have x:k0≠g:=by rintro rfl;rw[aI]at a;cases a
     have x:k8≠g:=by rintro rfl;rw[F]at a;cases a
     have x:G≠g:=by rintro rfl;rw[p]at a;cases a
     refine aa ?_;have Q:=U.aq i.sub r;have l6:=r;generalize X.set g _=K at*;clear L r;have H:=U.af (Q _ _ F);have B:=U.af (Q _ _ aI);have r:=a3i u 4;refine aa ?_;refine o6 [0,3,5,12,16] (λ_:Unit=> []) (λ_ D=> ∃Y,n0=(0,f.set d Y)/\Y.name=b.name/\gL D Y (.ptr g 0)/\w.sub D) (λE=> ?_) (λE=> ?_) ?_
     .have k0:u=4:=a5I.1 (by have c:=of_decide_eq_true E;have:(4:UInt8).toNat=4:=rfl;omega);rw[if_pos k0]at e;have aF:=U.aJ O;refine aa ?_;refine aH (λcd=> ?_) λcd=> ?_
      .rw[if_neg cd]at e;exact⟨_,U.a1,kf.of (by rw[<-e];exact N.sub Q) (ef.of (U.aq v Q)),by rw[<-e]⟩
      .have f:=cd;rw[if_pos f]at e;clear cd;generalize L:K.set g _=q;have k8:q g=some (.cells [bd b.name,.J (bF b.aC) C,.J I bE,.v (.pointer none),.v (.pointer none)]):=by subst L;exact U.ah _ _ _
       have r:w.sub q:=by subst L;exact U.ae Q a
       clear L aF O;refine ai (ZW (b.aC.length+1) a9r a9r l j.dp T b.bL k2 q (l0.mono r) z.dB.fj.ok (by have:=z.dB.cr;omega)) ?_;rintro _ Z ⟨y,N,rfl,P⟩;have V:=y _ _ k8;have aF:=U.aJ V;have l7:=P.cells;have H:=U.af (y _ _ (r _ _ F));have B:=U.af (y _ _ (r _ _ aI));refine aa ?_;generalize x:Z.set g _=A;have l2:A g=some (.cells [bd b.name,.J (bF b.aC) C,.J I bE,N,.v (.pointer none)]):=by subst x;exact U.ah _ _ _
       have W:w.sub A:=by subst x;exact U.ae (U.aq r y) a
       have l3:dS A (lA (b.aC.length+1) l b.bL).1 N:=by subst x;exact P.gK (n:=5) a9v (gJ.set V rfl)
       clear x aF H B;refine ai (a2E (e:=b.aC.length+1) a9r a9r l j.dp ⟨T,M⟩ b.ck k3 A (l1.fH (U.o4 W)) z.go) ?_;rintro _ S ⟨D,l4,l8,rfl,X⟩;have f:=D _ _ l2;have aF:=U.aJ f;have l9:=X.cells;refine aa ?_;exact⟨(),b.del l,e.symm,rfl,⟨g,C,I,bE,N,l4,rfl,U.ah _ _ _,h,(l3.mono D).gK (n:=5) a9v (gJ.set f rfl),X.gK (n:=5) a9v (gJ.set f rfl)⟩,U.aq W D⟩
     .have k0: ¬u=4:=λn=>(of_decide_eq_false E) (by rw[n];rfl);rw[if_neg k0]at e;have E:u=3:=by have:=tk cw (by rw[k7];exact k1) (by rw[k7];exact k5);rw[k7]at this;exact this.resolve_right k0
      have u:=k4 E;rw[if_neg (λc=>by
       obtain⟨k,M,n⟩:=a7I.1 c;exact u k M (of_decide_eq_true n))]at e
      have E:b.rows.filter (λk=>decide (k≠l))=b.rows:=a8n.2 λk M=>decide_eq_true λn=>u k M (by rw[n]);rw[E]at h;have u:=h.len;refine aa ?_;refine cJ U.a1 (by simp[aN]) λt q m=> ?_;have B:=U.af (m.sub _ _ (Q _ _ aI));refine aa ?_;refine dq (g:= []) m (λ_ c=>by cases c) (by simp[aN,ad,R.cells]) (by simp[bI];omega) (by simp[bI];omega) λk9 Z y=> ?_;rw[a5d];refine aa ?_;refine cJ U.a1 (by simp[aN,R.cells]) λm A l5=> ?_;refine aa ?_;have m:K.sub A:=U.aq y.sub l5.sub;refine qB (i.mono (U.aq l6 m)) (h.cells λ_ _=>isRow.cells) (by simp[aN,R.cells]) a9t a9t λi S D t=> ?_;have f:=t _ _ (m _ _ O);have m:az isRow (b.rows++ [l]) (I++ [.J (ad l) k9]):=h.snoc ⟨k9,rfl⟩;have h: ∀k∈b.rows++ [l],bO (b.aC.length+1) k:=λk c=>by
       rcases a5c.1 c with c|c
       .exact z.row c
       .obtain rfl:=a4Z.1 c;exact⟨T,M⟩
      refine aa ?_;refine ai (a2T (b.rows++ [l]) _ i .nil (b.aC.length+1) S m h a9r a9r a9t) ?_;rintro _ h ⟨t,i,k,E,rfl⟩;have u:=t _ _ f;have aF:=U.aJ u;have m:w.sub h:=U.aq D.sub t;have H:=U.af (m _ _ F);have B:=U.af (m _ _ aI);refine aa ?_;generalize L:h.set g _=q;have k8:q g=some (.cells [bd b.name,.J (bF b.aC) C,.J i k,.v (.pointer none),.v (.pointer none)]):=by subst L;exact U.ah _ _ _
      have r:w.sub q:=by subst L;exact U.ae m a
      clear L aF H B f u;refine ai (yx (b.aC.length+1) a9r a9r l j.dp T b.bL k2 0 q q (l0.mono r) U.a1 z.dB.fj.ok (by have:=z.dB.cr;omega)) ?_;rintro _ Z ⟨y,N,rfl,P⟩;have P:=P.mono qX;have V:=y _ _ k8;have aF:=U.aJ V;have l7:=P.cells;have H:=U.af (y _ _ (r _ _ F));have B:=U.af (y _ _ (r _ _ aI));refine aa ?_;generalize x:Z.set g _=A;have l2:A g=some (.cells [bd b.name,.J (bF b.aC) C,.J i k,N,.v (.pointer none)]):=by subst x;exact U.ah _ _ _
      have W:w.sub A:=by subst x;exact U.ae (U.aq r y) a
      have l3:dS A (de (b.aC.length+1) l b.bL 0).1 N:=by subst x;exact P.gK (n:=5) a9v (gJ.set V rfl)
      clear x aF H B;refine ai (Zl (e:=b.aC.length+1) a9r a9r l j.dp ⟨T,M⟩ b.ck k3 A (l1.fH (U.o4 W)) z.go) ?_;rintro _ S ⟨D,l4,l8,rfl,X⟩;have f:=D _ _ l2;have aF:=U.aJ f;have l9:=X.cells;refine aa ?_;exact⟨(),b.put l,e.symm,rfl,⟨g,C,i,k,N,l4,rfl,U.ah _ _ _,E,(l3.mono D).gK (n:=5) a9v (gJ.set f rfl),X.gK (n:=5) a9v (gJ.set f rfl)⟩,U.aq W D⟩
     .rintro _ S ⟨Y,a,a,m,b⟩ a;have eM:=U.af (b _ _ p);refine aa ?_;rw[nX];refine aa ?_;have a:=a3l (t:=S) (N:=k6) s;refine fk (ar.zero U.a1) a9r a a9r a9t a9t λn2 h h=> ?_;rw[a5d]at h;obtain⟨a,e,f,i,rfl,j,l,q,k,hm,r,_⟩:=h.al (λn=>by rw[n]at j9;simp at j9;omega);rw[a5v]at q k hm;have n:cS 1 (.al a e f 1) (.v (.int .i64 (d:Int)))=some (.ptr a d):=by have:=ja (e:=1) (i:=a) (v:=e) (M:=f) (e2:= .i64) (b1:=(d:Int)) a9r a9r;simpa using this
      have n:=U.aJ l;have l:=h.1 _ _ (b _ _ p);have n:G≠a:=by rintro rfl;rw[b _ _ p]at j;cases j
      have q:=U.aJ l;have l:(R.al a e f 1).cells= [.al a e f 1]:=rfl;have l:d+1<=i.length:=a9r;refine aa ?_;have l:putAt i d [R.ptr g 0]=i.set d (.ptr g 0):=by rw[a6d,if_pos a9r];unfold putAt;rw[a4W];rfl
      refine⟨_,U.a1,S,o.set d (.ptr g 0),az.set d (s.mono λ_ _ c=>c.sub b) m,⟨_,b _ _ p⟩,ef.of (U.aq v b),λc b m b=> ?_,.inr ⟨a,e,f,putAt i d [.ptr g 0],j,U.ah _ _ _,?_,?_,?_⟩⟩
      .have:c≠a:=by rintro rfl;rw[j]at b;cases b
       rw[U.an _ _ m,U.an _ _ this];exact h.1 _ _ b
      .rw[U.an _ _ n.symm,U.ah]
      .rw[l,a7m];omega
      .rw[l,kz,List.take_set,k]
def Gz (p:U) (a r:Nat) (d:List aS) (b:fF p a d) (j:cP r d) (l:r<900) (c:cg) (m:c.d.Fit) (n:cL c.d.row):
  AC Tryz.prog 21 [.ptr a 0,c.V] p λP h=>fF h a (ee d c.d).2/\ef a p h/\P= .v (.int .i64 (ee d c.d).1):=
 (a3m p a r d b j l c m n).view λP h b=>by
  obtain⟨⟨x,S,T,⟨v,V⟩,W,y,z⟩,rfl⟩:=b;have e: ∀C,ef a x C->gJ 1 x C:=λC D k E o q=>D k _ (by rintro rfl;rw[V]at o;obtain rfl:=bq.cells.inj (a4I o);exact q rfl) o;rcases z with ⟨F,z⟩|⟨k,s,w,E,G,t,o,hm,D⟩
  .exact⟨_,h,View.refl,⟨S,F,z,T.mono λ_ _ b=>b.gK (e _ y)⟩,W.trans y,rfl⟩
  .have u:a≠k:=by rintro rfl;rw[V]at G;cases G
   have f:ef a x ((h.set k (.ro E)).set a (.cells ([]++ .J (dL 1 s E) .any:: []))):=λg F i L=>by
    have:g≠k:=by rintro rfl;rw[G]at L;cases L
    rw[U.an _ _ i,U.an _ _ this];exact y g F i L
   exact⟨_,_,View.obj (A:= []) (e1:= []) t o a9r u,⟨S,.any,by rw[U.ah,D];rfl,T.mono λ_ _ b=>b.gK (e _ f)⟩,W.trans f,rfl⟩
variable{a8:aD}{w j2:ay}
def jo.le (d:e<=8) (b:jo e a8 w) (c:a8.size<=1048576):w.hx/\w.sum.length=32/\w.cF:=by have a:=b.kL c;have h:=a.od;have k:=a.oe;have o:=a.og;exact⟨⟨a9r,a9r,a9r,a.nd,a.live,a.nf,a.size⟩,b.sum,⟨a9r,a9r,a9r⟩⟩
theorem zZ {c:Nat} (m:1<=c) (i:c<=8): ∀(b:aD) (j:R) (a:U),dS a b j->b.c9 c->b.size<=1048576->AC Tryz.prog 60 [j] a λd q=>a.sub q/\ ∃k e l,d= .agg (ab (bn b) k e l)
 | .nil,j,a,r,_,_=>by
  obtain rfl:j= .v (.pointer none):=r;have eR:=ir aA .nil .nil .nil bl;have z:putAt (ab aA .nil .nil .nil) 0 (ab aA .nil .nil .nil)=ab aA .nil .nil .nil:=cG bl bl;refine aO hm Bh ?_;refine br λf o=> ?_;rw[ct];exact⟨.nil,.nil,.nil,by rw[(aX bl).t37];rfl⟩
 | .node d g b c,j,a,r,p,s=>by
  obtain⟨t,G,u,v,rfl,h,n,w⟩:=r;have r:=s;simp only[aD.size]at r;have y:=zZ m i b u;have D:=zZ m i c v;have A:=(fi m i p.a a9r).le i a9r;have cc:=(fi m i p.b a9r).le i a9r;have B:=fi m i p s;have i:=B.size;have i:=n.cells;have eR:=w.cells;have x:=U.af h;have H: ∀i:U,a.sub i->AC Tryz.prog 114 [.ptr t 0] i λm q=>i.sub q/\ ∃q r u v,m=gQ (cm (d,g) (bn b) (bn c)) (.J q u) (.J r v)/\az di [(d,g)] q/\az bt [bn b,bn c] r:=by
   intro i m;have h:=m _ _ h;have n:=n.mono m;have w:=w.mono m;have x:=U.af h;refine aO hm MD ?_;refine br λf o=> ?_;have m:t≠f:=by rintro rfl;rw[h]at o;cases o
   have s:=U.ae (Y:= .cells [.v (.int .u8 0),.J [] .nil,.J [] .nil]) (U.a1 (f:=i)) o;have I:=U.ah i f (.cells [.v (.int .u8 0),.J [] .nil,.J [] .nil]);generalize i.set f _=i at*;have x:=U.af (s _ _ h);refine aa ?_;refine(rS (cJ U.a1 (by simp[aN,R.cells]) λ_ _ _=>trivial)).mpr ?_;refine aa ?_;refine ai (y i (n.mono s) p.a a9r) ?_;rintro _ C ⟨t,i,m,n,rfl⟩;have y:=U.aq s t;have x:=U.af (y _ _ h);have F:=(ir (bn b) i m n A.2.1).1;refine aa ?_;refine(rS (cJ U.a1 (by simp[aN,R.cells]) λ_ _ _=>trivial)).mpr ?_;refine aa ?_;refine ai (D C (w.mono y) p.b a9r) ?_;rintro _ w ⟨D,ch,ca,cX,rfl⟩;have E:=U.aq y D;have K:=(ir (bn c) ch ca cX cc.2.1).1;have x:=U.af (E _ _ h);refine aa ?_;have x:aN 37 [R.agg (ab (bn b) i m n),.agg (ab (bn c) ch ca cX)]:=λw h=>by
    simp only[a5k,a6p,or_false]at h;rcases h with rfl|rfl
    .exact F
    .exact K
   refine(rS (cJ U.a1 x λ_ _ _=>trivial)).mpr ?_;refine aa ?_;refine cJ U.a1 (by simp[aN,R.cells]) λe F h=> ?_;refine aa ?_;refine cJ U.a1 x λK x x=> ?_;have L:=U.aJ (x.sub _ _ (h.sub _ _ (D _ _ (t _ _ I))));refine aa ?_;exact⟨U.aq E (U.aq h.sub x.sub),_,_,e,K,rfl,⟨⟨G,rfl⟩,trivial⟩,⟨A.2.1,A.2.2,i,m,n,rfl⟩,⟨cc.2.1,cc.2.2,ch,ca,cX,rfl⟩,trivial⟩
  have D:=λq r u v a x A=>Gq (cm (d,g) (bn b) (bn c)) q r u v a x A (by simp[cm]) (by simp[cm]) (λj E=>by
   obtain rfl:j=(d,g):=by simpa[cm] using E
   have:=p.r.len;dsimp only;omega) (λj p=>by
   have:j=bn b\/j=bn c:=by simpa[cm] using p
   grind) (by show(bn (.node d g b c)).size<= _;omega) (λw=>by cases w) (λw=>by cases w)
  have j:eW (cm (d,g) (bn b) (bn c))=bn (.node d g b c):=rfl;rw[j]at D;have j:=B.sum;generalize bn (.node d g b c)=b at*;have c:=λk e l=>ir b k e l j;have z: ∀k e l,putAt (ab aA .nil .nil .nil) 0 (ab b k e l)=ab b k e l:=λk e l=>cG bl j;have b:=ir aA .nil .nil .nil bl;refine aO hm Bh ?_;refine br λf o=> ?_;rw[ct];have s:=U.ae (Y:= .cells (ab aA .nil .nil .nil)) (U.a1 (f:=a)) o;refine ai (H _ s) ?_;rintro _ F ⟨h,q,r,u,v,rfl,x,A⟩;refine aa ?_;refine ai (D q r u v F x A) ?_;rintro _ C ⟨t,i,m,n,rfl⟩;have b:=U.aJ (t _ _ (h _ _ (U.ah a f (.cells (ab aA .nil .nil .nil)))));refine aa ?_;have y:=U.aq s (U.aq h t);have aI:=t _ _ (h _ _ (U.ah a f (.cells (ab aA .nil .nil .nil))));refine aP λb a=> ?_;have d:f≠b:=by rintro rfl;rw[aI]at a;cases a
  have a:=d.symm;have z:=z i m n;have c:=c i m n;refine aa ?_;exact⟨i,m,n,rfl⟩
def a3n (d:e<=8) (c:a6.T 0) (b:R) (a:U) (i:bu a 0 c b) (j:fa e 0 c):
  AC Tryz.prog 115 [b] a λe d=>a.sub d/\ ∃b f h g,e=gQ (dA 0 c) (.J b h) (.J f g)/\az di (dA 0 c).rows b/\az bt (dA 0 c).kids f:=by
 obtain⟨b,rfl⟩:=a6.ia c;obtain⟨c,c,f,f,rfl,g,f⟩:=i;have f:az isRow b c:=f;obtain⟨c,i,_⟩:=j.wf;rw[a6.hz]at c i;have c:=f.len;have c:=U.af g;refine aO hm Bo ?_;refine br λc i=> ?_;refine db λj m n k=> ?_;have k:=U.ah a c (.cells [.v (.int .u8 0),.J [] .nil,.J [] .nil]);have l:=U.ae (Y:= .cells [.v (.int .u8 0),.J [] .nil,.J [] .nil]) (U.a1 (f:=a)) i;have i:(a.set c (.cells [.v (.int .u8 0),.J [] .nil,.J [] .nil])) j=none:=by rw[U.an _ _ n];exact m
 generalize a.set c _=c at*;have n:=l _ _ g;refine cj [0,2,3] (λa:Nat=> [(4,.v (.int .i64 (a:Int)))]) (λa d=>a<=b.length/\ ∃aj g,d j=some (.cells [.v (.int .u8 2),.J aj g,.J [] .nil])/\bj c d 2 aj g/\az di ((b.take a).map λe=>(e,true)) aj) (λa=>b.length - a) 0 ⟨⟨a5q _,[],.nil,U.ah _ _ _,bj.nil (U.ae (U.ae U.a1 i) i),trivial⟩,aU⟩ ?_;rintro a q ⟨c,aj,g,m,c,e⟩ r;have j:=U.af (c.sub _ _ n);have j:=U.af m;have n:=e.len;rw[a4V,a4N]at n;refine aa ?_;refine aH (λo=> ?_) λo=> ?_
 .have j:a<b.length:=a9r;have p:b[a]? =some (b.getD a []):=by simp[List.getD,j]
  obtain⟨_,s,h,rfl⟩:=f.get p;have s:=eU (a:=b) (b:= []) (e:=a) j;generalize b.getD a []=f at*;refine aa ?_;refine cJ U.a1 (by simp[aN,R.cells]) λf f f=> ?_;refine aa ?_;refine qB (c.mono f.sub) (e.cells λ_ _=>di.cells) (by simp[aN,R.cells]) a9t a9t λp p t u=> ?_;have p:=u _ _ (f.sub _ _ m);have aF:=U.aJ p;refine aa ?_;refine⟨a+1,⟨j,_,_,rfl,oN t i p,?_⟩,rfl,a9r⟩;rw[s,a5P];exact e.snoc ⟨h,rfl⟩
 .obtain rfl:a=b.length:=a9r;rw[a5h]at e;have a:=U.aq l c.sub;have a:=U.aJ (c.sub _ _ k);clear o n a;refine cj [0,2,3] (λ_:Unit=> [(5,.v (.int .i64 0))]) (λ_ d=>d=q) (λ_=>0) () ⟨rfl,aU⟩ ?_;rintro _ _ rfl r;have a:=U.aJ (c.sub _ _ k);refine aa ?_;exact⟨aj,[],g,.nil,rfl,e,trivial⟩
def jj.le (d:e<=8) (b:jj e i w) (c:i<=1048576):w.hx/\w.sum.length=32/\w.cF:=by have a:=b.kL c;have h:=a.od;have k:=a.oe;have o:=a.og;exact⟨⟨a9r,a9r,a9r,a.nd,a.live,a.nf,a.size⟩,b.sum,⟨a9r,a9r,a9r⟩⟩
def a3o (p:1<=i) (o:i<=8) (c:a6.T (e+1)) (b:R) (a:U) (k:bu a (e+1) c b) (g:fa i (e+1) c)
  (ih: ∀(c:a6.T e) (b:R) (a:U),bu a e c b->fa i e c->AC Tryz.prog 61 [b] a λh d=>a.sub d/\ ∃f j l,h= .agg (ab (bY e c) f j l)):
  AC Tryz.prog 115 [b] a λh d=>a.sub d/\ ∃b f i l,h=gQ (dA (e+1) c) (.J b i) (.J f l)/\az di (dA (e+1) c).rows b/\az bt (dA (e+1) c).kids f:=by
 obtain⟨b,rfl⟩:=a6.gw c;obtain⟨m,f,c,j,rfl,h,i,c,_⟩:=k;have i:az (bu a e) b f:=i;have s:=g.hf;obtain⟨c,f,_⟩:=g.wf;rw[a6.dG]at c f;have c:=g.dI;have c:=i.len;have c:=U.af h;refine aO hm Bo ?_;refine br λg f=> ?_;refine db λc j k l=> ?_;have t:=U.ah a g (.cells [.v (.int .u8 0),.J [] .nil,.J [] .nil]);have l:=U.ae (Y:= .cells [.v (.int .u8 0),.J [] .nil,.J [] .nil]) (U.a1 (f:=a)) f;have f:(a.set g (.cells [.v (.int .u8 0),.J [] .nil,.J [] .nil])) c=none:=by rw[U.an _ _ k];exact j
 generalize a.set g _=k at*;have j:=l _ _ h;have a:m≠c:=by rintro rfl;rw[j]at f;cases f
 refine cj [0,2,3] (λ_:Unit=> [(4,.v (.int .i64 0))]) (λ_ d=>d=(k.set c (.cells [.v (.int .u8 0),.J [] .nil,.J [] .nil])).set c (.cells [.v (.int .u8 2),.J [] .nil,.J [] .nil])) (λ_=>0) () ⟨rfl,aU⟩ ?_;rintro _ _ rfl m;have a:=U.af j;refine aa ?_;refine cj [0,2,3] (λa:Nat=> [(5,.v (.int .i64 (a:Int)))]) (λa d=>a<=b.length/\ ∃aj g,d c=some (.cells [.v (.int .u8 (if a=0 then 2 else 3)),.J [] .nil,.J aj g])/\bj k d 37 aj g/\az bt ((b.take a).map (bY e)) aj) (λa=>b.length - a) 0 ⟨⟨a5q _,[],.nil,U.ah _ _ _,bj.nil (U.ae (U.ae U.a1 f) f),trivial⟩,aU⟩ ?_;rintro a q ⟨d,aj,g,k,d,h⟩ m;have m:=U.af (d.sub _ _ j);have u:=U.af k;have v:=U.aJ k;have m:=h.len;rw[a4V,a4N]at m;refine aa ?_;refine aH (λm=> ?_) λm=> ?_
 .have m:a<b.length:=a9r;have n:b[a]? =some b[a]:=a4J m;obtain⟨r,r,r⟩:=i.get n;obtain⟨i,_⟩:=s _ (a4Q n);have s:(a6.bc e b[a]).length<=1048576:=i.dI;have w:b.take (a+1)=b.take a++ [b[a]]:=a5X m;have n:=(uG p o i).le o s;generalize b[a]=o at*;obtain⟨aQ,p,p,rfl,_⟩:=bu.ptr r;refine aa ?_;have p:=oN (Y:= .cells [.v (.int .u8 3),.J [] .nil,.J aj g]) d f k;have s:=U.ah q c (.cells [.v (.int .u8 3),.J [] .nil,.J aj g]);clear d k u v;generalize q.set c _=c at*;refine ai (ih o _ c (r.mono (U.aq l p.sub)) i) ?_;rintro _ c ⟨c,ch,ca,cX,rfl⟩;have i:=c _ _ s;have k:=U.af i;have k:=U.af (c _ _ (p.sub _ _ j));have k:=(ir (bY e o) ch ca cX n.2.1).1;have j:aN 37 [R.agg (ab (bY e o) ch ca cX)]:=λe e=>by rw[a4Z]at e;subst e;exact k
  refine aa ?_;refine cJ U.a1 j λe e e=> ?_;refine aa ?_;refine qB ((p.mono c).mono e.sub) (h.cells λ_ _=>bt.cells) j a9t a9t λc c j k=> ?_;have c:=k _ _ (e.sub _ _ i);have aF:=U.aJ c;refine aa ?_;refine⟨a+1,⟨m,_,_,rfl,oN j f c,?_⟩,rfl,a9r⟩;rw[w,a5P];exact h.snoc ⟨n.2.1,n.2.2,ch,ca,cX,rfl⟩
 .obtain rfl:a=b.length:=a9r;rw[a5h]at h;have a: ¬b.length=0:=a9r;have a:=U.aJ (d.sub _ _ t);refine aa ?_;exact⟨U.aq l d.sub,[],aj,.nil,g,rfl,trivial,h⟩
theorem GA (r:1<=i) (s:i<=8) (a:a6.T e) (n:R) (b:U) (w:bu b e a n) (o:fa i e a)
  (x: ∀c,b.sub c->AC Tryz.prog 115 [n] c λk p=>c.sub p/\ ∃h j l m,k=gQ (dA e a) (.J h l) (.J j m)/\az di (dA e a).rows h/\az bt (dA e a).kids j):
  AC Tryz.prog 61 [n] b λk c=>b.sub c/\ ∃d f g,k= .agg (ab (bY e a) d f g):=by
 have q:=(nr r s e a o).1;obtain⟨r,c,i⟩:=ln q.y9.ok;have u:=q.kL;have s:=o.dI;have s:=u.size;have v:=λh j l m b s t=>Gq (dA e a) h j l m b s t c i (λc y=>by have:=r c y;omega) (λy z=>by
  have c:=q.y9.kids y z;have n:=c.od;have q:=c.oe;have n:=c.og;exact⟨⟨a9r,a9r,a9r,c.nd,c.live,c.nf,c.size⟩,c.sum,⟨a9r,a9r,a9r⟩⟩) (by show(eW (dA e a)).size<= _;omega) (λc=>by
  match e,a,c with
  |0,a,_=>obtain⟨n,rfl⟩:=a6.ia a;have:=o.wf.1;rw[a6.hz]at this;intro y;have z:(dA 0 (a6.leaf n)).rows=n.map λk=>(k,true):=rfl;simp_all
  |e+1,a,c=>exact absurd c zK) (λc=>by
  match e,a,c with
  |0,a,c=>rw[Es]at c;cases c
  |e+1,a,_=>obtain⟨c,rfl⟩:=a6.gw a;have:=o.wf.1;rw[a6.dG]at this;intro y;have z:(dA (e+1) (a6.node c)).kids=c.map (bY e):=rfl;simp_all)
 have c:=u.sum;rw[<-sP]at c v;obtain⟨q,k,k,rfl,k⟩:=bu.ptr w;generalize bY e a=a at*;have k:=λd f g=>ir a d f g c;have n: ∀d f g,putAt (ab aA .nil .nil .nil) 0 (ab a d f g)=ab a d f g:=λd f g=>cG bl c;have a:=ir aA .nil .nil .nil bl;refine aO hm Bi ?_;refine br λa r=> ?_;rw[ct];have o:=U.ae (Y:= .cells (ab aA .nil .nil .nil)) (U.a1 (f:=b)) r;refine ai (x _ o) ?_;rintro _ p ⟨c,h,j,l,m,rfl,s,t⟩;refine aa ?_;refine ai (v h j l m p s t) ?_;rintro _ d ⟨d,e,f,g,rfl⟩;have h:=U.aJ (d _ _ (c _ _ (U.ah b a (.cells (ab aA .nil .nil .nil)))));refine aa ?_;have h:=U.aq o (U.aq c d);have aI:=d _ _ (c _ _ (U.ah b a (.cells (ab aA .nil .nil .nil))));refine aP λb i=> ?_;have c:a≠b:=by rintro rfl;rw[aI]at i;cases i
 have a:=c.symm;have n:=n e f g;have k:=k e f g;refine aa ?_;exact⟨e,f,g,rfl⟩
def GB {x:Nat} (r:1<=x) (h:x<=8): ∀(d:Nat) (a:a6.T d) (b:R) (c:U),bu c d a b->fa x d a->AC Tryz.prog 61 [b] c λz k=>c.sub k/\ ∃C D E,z= .agg (ab (bY d a) C D E)
 |0,a,b,c,o,p=>GA r h a b c o p λk y=>a3n h a b k (o.mono y) p
 |d+1,a,b,c,o,p=>GA r h a b c o p λk y=>a3o r h a b k (o.mono y) p λa b c=>GB r h d a b c
def a3p (h:1<=e) (k:e<=8) (a:eH) (b:R) (c:U) (d:fQ c a b) (o:iN e a):AC Tryz.prog 61 [b] c λp r=>c.sub r/\ ∃x y z,p= .agg (ab (hI a) x y z):=by
 match a with
 |none=>obtain rfl:b= .v (.pointer none):=d;have eR:=ir aA .nil .nil .nil bl;have D:putAt (ab aA .nil .nil .nil) 0 (ab aA .nil .nil .nil)=ab aA .nil .nil .nil:=cG bl bl;refine aO hm Bi ?_;refine br λE F=> ?_;rw[ct];exact⟨.nil,.nil,.nil,by rw[(aX bl).t37];rfl⟩
 |some ⟨C,a⟩=>exact GB h k C a b c d (GT.jW o)
def jy (a:List cg):List R:=a.map cg.V
def rm {a:List cg}:(jy a).length=a.length:=by simp[jy]
def jz:List aS->List cq->Int×List aS
 |cC,[]=>(0,cC)
 |cC,a::b=>if(ee cC a).1=0 then jz (ee cC a).2 b else((ee cC a).1,[])
def kV (a:List aS) (b:List cq):Int×List aS:=if(jz a b).1=0 then jz a b else((jz a b).1,a)
def vy {a:List cg}{b:cg} (c:a[e]? =some b):eD 4 (jy a)[e]? =some (.bW b.C):=by obtain⟨d,rfl⟩:=a4R.1 c;rw[show(jy a)[e]? =some (a[e]).V by simp[jy,d]];rfl
theorem a3q (f:U) (g h:Nat) (b:List aS) (p:fF f g b) (e:cP h b) (a:List cg) (d:Own) (i:h+a.length<900) (r: ∀c∈a,c.d.Fit/\cL c.d.row):
  AC Tryz.prog 35 [.ptr g 0,.J (jy a) d] f λc d=>fF d g (kV b (a.map cg.d)).2/\ef g f d/\c= .v (.int .i64 (kV b (a.map cg.d)).1):=by
 have c:=rm (a:=a);have c:=e.dI;have c:=a2K f g b p a9r;refine aO hm Kr ?_;refine ai c ?_;rintro _ c ⟨k,i,rfl,j,l⟩;refine aa ?_;refine cj [0,1,5] (λc:Nat×List aS=> [(6,.v (.int .i64 (c.1:Int)))]) (λc d=>c.1<=a.length/\fF d i c.2/\cP (h+c.1) c.2/\f.sub d/\jz c.2 ((a.drop c.1).map cg.d)=jz b (a.map cg.d)) (λc=>a.length - c.1) (0,b) ⟨⟨a5q _,l,e,k,rfl⟩,aU⟩ ?_;rintro⟨c,k⟩ s ⟨e,l,m,n,d⟩ o
 dsimp only at e l m d|-
 refine aa ?_;refine aH (λe=> ?_) λe=> ?_
 .have o:c<a.length:=a9r;have e:a[c]? =some a[c]:=a4J o;have q:=vy e;obtain⟨t,q⟩:=r _ (a4Q e);have e:a.drop c=a[c]::a.drop (c+1):=a5e o;rw[e]at d;generalize a[c]=e at*;have r:=Gz s i (h+c) k l m a9r e t q;have s:=rl m a9r q;rw[a5j,jz]at d;have h:e.C.length=4:=rfl;have h:(.agg (e.C.take 4):R)=e.V:=rfl;have h:aY true 4 e.C=e.V:=rfl;generalize e.C=h at*;generalize e.V=h at*;generalize ee k e.d=e at*;refine aa ?_;refine ai r ?_;rintro _ h ⟨m,q,rfl⟩;have r:f.sub h:=λr h f=>q r h (by rintro rfl;rw[j]at f;cases f) (n _ _ f);refine aH (λc2=> ?_) λc2=> ?_
  .rw[if_neg c2]at d;have f:kV b (a.map cg.d)=(e.1,b):=by unfold kV;rw[<-d,if_neg c2]
   grind[U.a1,ef.of]
  .have aI:e.1=0:=c2;rw[if_pos aI]at d;refine⟨(c+1,e.2),⟨o,m,s,d⟩,rfl,by simp only;omega⟩
 .obtain rfl:c=a.length:=a9r;rw[a7s]at d;have f:kV b (a.map cg.d)=(0,k):=by unfold kV;rw[<-d];rfl
  obtain⟨a,h,b,c⟩:=l;obtain⟨a,a,a,d⟩:=p;have d:=U.af b;have b:=n _ _ a;have d:=U.aJ b;have d:g≠i:=by rintro rfl;rw[a]at j;cases j
  refine aa ?_;exact⟨_,U.a1,vx b c,(ef.of n).set⟩
structure fW (a:ag) (l:List aK) (cC:List aS):Prop where
 eq:l=cC.map aS.bA
 ins: ∀t∈cC,ed a t.bL/\mu a t.ck
def fW.mono {b c:ag}{d:List aK}{h:List aS} (a:fW b d h) (k:b.le c):fW c d h:=⟨a.eq,λo p=>⟨(a.ins o p).1.mono k,(a.ins o p).2.mono k⟩⟩
theorem GC {b c:ag->Except Int ay×ag} (r: ∀a:ag,a.le (b a).2) (x: ∀a:ag,a.le (c a).2) (a:ag) (y:List aK) (z:aK):a.le (fE b c a y z).2.2:=by
 unfold fE;have d:=r a;generalize b a=h at*;obtain⟨k,o⟩:=h;cases k with
 |error C=>exact d
 |ok D=>
  have p:=x o
  dsimp only
  generalize c o=h at*;obtain⟨k,E⟩:=h;cases k with
  |error C=>exact d.trans p
  |ok F=>exact d.trans p
def GD (F:cP e X) (G:e<=1000) {a:aS} (L:eQ i j7) (P:i<=1000) (y:j7.name=a.name) (S:j7.aC=a.aC) (T:c3 X a.name<X.length) {c b:ag->Except Int ay×ag}
  (r:gj H j7.bL (c H)) (h: ∀d:ag,H.le d->d.one=false->pP d j7.ck (b d)) (V: ∀d:ag,d.le (b d).2) (k:(fE c b H (X.map aS.bA) a.bA).2.2.one=false):
  (fE c b H (X.map aS.bA) a.bA).1=0/\(fE c b H (X.map aS.bA) a.bA).2.1=(X.set (c3 X a.name) j7).map aS.bA/\H.le (fE c b H (X.map aS.bA) a.bA).2.2/\ed (fE c b H (X.map aS.bA) a.bA).2.2 j7.bL/\mu (fE c b H (X.map aS.bA) a.bA).2.2 j7.ck:=by
 unfold fE at k|-;generalize c H=o at*;obtain⟨x,p⟩:=o;cases x with
 |error W=>cases (r.ins k).1
 |ok f=>
  dsimp only at k|-
  have C:=V p;have D:p.one=false:=by
   revert k;generalize b p=o at*;obtain⟨x,g⟩:=o;cases x with
   |error W=>exact λz=>C.zero z
   |ok f=>exact λz=>C.zero z
  obtain⟨j,l⟩:=r.ins D;obtain rfl:=Except.ok.inj j;have h:=h p r.le D;generalize b p=o at*;obtain⟨x,g⟩:=o;obtain rfl:=h.ok
  dsimp only at k|-
  have E:=pg F G L P (by rw[y];exact T);have m:j7.bA=⟨a.bA.name,a.bA.aC,bn j7.bL,hI j7.ck⟩:=by show(⟨j7.name,j7.aC,bn j7.bL,hI j7.ck⟩:aK)=⟨a.name,a.aC,bn j7.bL,hI j7.ck⟩;rw[y,S]
  rw[m,y]at E;rw[E];exact⟨rfl,rfl,r.le.trans h.le,l.mono h.le,h.ins k⟩
def a3r (a:ag) (b:ay):a.le (nD e q a b).2:=zg _ _ _ _
variable{h3:Int × List aK × ag}{b9:List aK}
theorem a3s (a:lF H b9 b8 h3):H.le h3.2.2:=by
 unfold lF at a;split at a
 .rw[a];exact ag.le_refl
 split at a
 .rcases a with ⟨_,rfl⟩|⟨rows,_,_,⟨_,rfl⟩|⟨_,rfl⟩⟩
  .exact ag.le_refl
  .exact GC (λH=>a3r _ _) (λH=>EA) _ _ _
  .exact ag.le_refl
 .rw[a];exact ag.le_refl
theorem a3t:H.le (ju H b9 b8).2.2:=by grind[ju,ag.le_refl,GC,a1B,ED]
theorem A0 (a:eB H b9 b8 h3):H.le h3.2.2:=by grind[eB,ag.le_refl,a3s,a3t]
theorem A1 {b:Except Int (List aK)} (c:cB b9=true) (d: ∀a,b= .ok a->cB a=true):cB (iQ b b9).2=true:=by
 cases b with
 |error h=>exact c
 |ok a=>exact d a rfl
variable{e6:aK}
theorem GF {a b:ag->Except Int ay×ag} (c:cB b9=true):cB (fE a b H b9 e6).2.1=true:=by grind[fE,A1,G6]
theorem GG (b:cB b9=true) (a:eB H b9 b8 h3):cB h3.2.1=true:=by
 unfold eB at a;split at a
 .rw[a];exact b
 split at a
 .rw[a];exact A1 b λc a=>G9 a
 split at a
 .rw[a];exact A1 b λc a=>G5 b a
 split at a
 .unfold lF at a;split at a
  .rw[a];exact b
  split at a
  .rcases a with ⟨_,rfl⟩|⟨rows,_,_,⟨_,rfl⟩|⟨_,rfl⟩⟩
   .exact b
   .exact GF b
   .exact b
  .rw[a];exact b
 grind[ju,GF]
def vz (c:cB b9=true): ∀a∈b9,a.Fit:=λa d=>by
 have b:=(mq c).1 a d;exact⟨by have:=b.n;omega,by have:=b.c;omega,λh k=>by have:=b.cs h k;omega⟩
theorem pS (a:eB H b9 b8 h3) (j:cP e X) (z:e<900) (g:cL b8.row) (h:fW H b9 X) (q:h3.2.2.one=false):
  h3.1=(ee X b8).1/\fW h3.2.2 h3.2.1 (ee X b8).2:=by
 obtain⟨rfl,f⟩:=h;have h:fW H (X.map aS.bA) X:=⟨rfl,f⟩;unfold eB at a;unfold ee;by_cases b:eb b8=false;simp_all;rw[if_neg b]at a|-;have o:eb b8=true:=by cases d:eb b8<;>simp_all
 by_cases k:b8.kind=1
 .rw[if_pos k]at a|-;have b:=zT o k;rw[add_eq j a9r b]at a;by_cases c2:c3 X b8.table<X.length
  .rw[if_pos c2]at a|-;rw[a];exact⟨rfl,h⟩
  rw[if_neg c2]at a|-;by_cases aI:7<X.length
  .rw[if_pos aI]at a|-;rw[a];exact⟨rfl,h⟩
  rw[if_neg aI]at a|-;rw[a];refine⟨rfl,rfl,λb c=> ?_⟩;simp only[a5c,a5k]at c;rcases c with c|rfl|c;grind
  .exact⟨trivial,trivial⟩
  grind
 rw[if_neg k]at a|-;by_cases aI:b8.kind=2
 .rw[if_pos aI]at a;rw[zU j a9r]at a;by_cases c2:c3 X b8.table<X.length
  .rw[if_pos c2]at a;rw[if_neg a9r,if_pos aI,a];exact⟨rfl,rfl,λb c=>f b (a7U c)⟩
  .rw[if_neg c2]at a;rw[if_pos a9r,a];exact⟨rfl,h⟩
 rw[if_neg aI]at a;by_cases c2:X.length<=c3 X b8.table
 .rw[if_pos c2];have t:(X.map aS.bA).find? (λb=>decide (b.name=b8.table))=none:=by rw[pQ,a7D c2];rfl
  rcases tk o k aI with e|e
  .rw[if_pos e]at a;unfold lF at a;simp_all
  .rw[if_neg (by rw[e];decide)]at a;unfold ju mr at a;simp_all
 rw[if_neg c2,if_neg aI];have l:c3 X b8.table<X.length:=a9r;have i:=vw l;have c:=j.ok _ i;have r:=tj l;have t:(X.map aS.bA).find? (λb=>decide (b.name=b8.table))=some (X.getD (c3 X b8.table) default).bA:=by rw[pQ,a5u,a4J l];rfl
 generalize X.getD (c3 X b8.table) default=b at*;have m:=c.c;obtain⟨m,B⟩:=f b i;have i:=c.dB.cr;have s: ∀i:aS,ed h3.2.2 i.bL/\mu h3.2.2 i.ck->H.le h3.2.2-> ∀v∈X.set (c3 X b8.table) i,ed h3.2.2 v.bL/\mu h3.2.2 v.ck:=λi n i v p=>by
  rcases a6Y p with d|rfl
  .exact⟨(f v d).1.mono i,(f v d).2.mono i⟩
  .exact n
 rcases tk o k aI with e|e
 .rw[if_pos e]at a;rw[if_neg (show¬b8.kind=4 by rw[e];decide)];unfold lF at a;rw[t]at a
  dsimp only at a
  by_cases aM:b8.row.length=b.aC.length+1
  .rw[if_neg (show¬b8.row.length≠b.aC.length+1 from λd=>d aM)];rw[if_pos (show b8.row.length=b.bA.aC.length+1 from aM)]at a;have u:bO (b.aC.length+1) b8.row:=⟨aM,g⟩;rcases a with ⟨k,_⟩|⟨rows,f,_,a⟩
   .exact absurd k (zD (e:=b.aC.length+1) (a8:=b.bL) a9r a9r c.dB.fj a9r m)
   have p:=zF (e:=b.aC.length+1) (a8:=b.bL) a9r a9r c.dB.fj a9r m f;have x:rows= []↔ ¬b.rows.any (λo=>decide (bR o=bR b8.row))=true:=by
    rw[p,a7I];constructor
    .rintro d ⟨o,g,f⟩;exact d o (c.gd.mem_iff.2 g) ((zG (e:=b.aC.length) a9r (c.row g)).2 (of_decide_eq_true f))
    .intro d y A p;have w:=c.gd.mem_iff.1 A;exact d ⟨y,w,decide_eq_true ((zG (e:=b.aC.length) a9r (c.row w)).1 p)⟩
   rcases a with ⟨f,a⟩|⟨f,a⟩
   .have y:=x.1 f;rw[if_neg y];obtain⟨n,w,x⟩:=c.put z u λo g f=>y (a7I.2 ⟨o,g,decide_eq_true f⟩);have k:=a1C (e:=b.aC.length+1) a9r a9r u c.dB.fj a9r m w;rw[a]at q s|-;have p:=GD (a:=b) (j7:=b.put b8.row) j a9r n a9r rfl rfl (by rw[r];exact l) (c:=λH=>nD (b.aC.length+1) b8.row H (bn b.bL)) (b:=λH=>iJ (b.aC.length+1) b8.row H (hI b.ck)) k (λo i C=>a2x a9r a9r u c.go (B.mono i) x) (λo=>EA) q;obtain⟨u,g,y,z,A⟩:=p;rw[r]at g;exact⟨u,g,s _ ⟨z,A⟩ y⟩
   grind
  .rw[if_neg (show¬b8.row.length=b.bA.aC.length+1 from aM)]at a;grind
 .rw[if_neg (by rw[e];decide)]at a;rw[if_pos e];unfold ju mr at a;rw[t]at a
  dsimp only at a
  by_cases aM:b8.row.length=b.aC.length+1
  .rw[if_neg (show¬b8.row.length≠b.aC.length+1 from λd=>d aM)];rw[if_pos (show b8.row.length=b.bA.aC.length+1 from aM)]at a
   dsimp only at a
   rw[if_pos rfl]at a;by_cases bD:b8.row∈b.rows
   .rw[if_pos bD];obtain⟨n,w,x⟩:=c.del bD;have k:=a1D (e:=b.aC.length+1) (q:=b8.row) a9r a9r c.dB.fj a9r m w;rw[a]at q s|-;have p:=GD (a:=b) (j7:=b.del b8.row) j a9r n a9r rfl rfl (by rw[r];exact l) (c:=λH=>iP (b.aC.length+1) b8.row H (bn b.bL)) (b:=λH=>kH (b.aC.length+1) b8.row H (hI b.ck)) k (λo i C=>a2C a9r a9r (c.row bD) c.go (B.mono i) x) (λo=>ED) q;obtain⟨u,g,y,z,A⟩:=p;rw[r]at g;exact⟨u,g,s _ ⟨z,A⟩ y⟩
   .rw[if_neg bD];have d:=FD (e:=b.aC.length+1) (q:=b8.row) a9r a9r c.dB.fj a9r m (c.none aM bD);have c:h3=(9,X.map aS.bA,H):=by
     rw[a];unfold fE;show(match iP (b.aC.length+1) b8.row H (bn b.bL)with
      |(.error f,e)=> _
      |(.ok f,e)=> _:Int×List aK×ag)= _
     rw[d]
    rw[c];exact⟨rfl,h⟩
  .rw[if_neg (show¬b8.row.length=b.bA.aC.length+1 from aM)]at a;simp_all
inductive mv:ag->List aK->List cq->Int×List aK×ag->Prop
 |nil (a:ag) (l:List aK):mv a l [] (0,l,a)
 |stop {a:ag}{l:List aK}{d:cq}{cC:List cq}{res:Int×List aK×ag}:eB a l d res->res.1≠0->mv a l (d::cC) res
 |step {a:ag}{l:List aK}{d:cq}{cC:List cq}{res b:Int×List aK×ag}:eB a l d res->res.1=0->mv res.2.2 res.2.1 cC b->mv a l (d::cC) b
def a3u (f:U) (e g h:Nat) (i:ag) (d:List aK) (b:cQ f e g h i d) (k:cB d=true) (a:List cg) (c:Own) (v: ∀j∈a,j.d.Fit) (l:a.length<=1000000):
  AC Tryz.prog 34 [.ptr e 0,.J (jy a) c] f λc j=> ∃res,mv i d (a.map cg.d) res/\c= .v (.int .i64 res.1)/\cQ j e g h res.2.2 (if res.1=0 then res.2.1 else d)/\cz e g h f j:=by
 have c:=rm (a:=a);have c:=(mq k).2;have c:=a2f f e g h i d b a9r;refine aO hm Kp ?_;refine ai c ?_;rintro _ c ⟨o,l,rfl,m,p⟩;refine aa ?_;refine cj [0,5,11,12] (λc:Nat×ag×List aK=> [(13,.v (.int .i64 (c.1:Int)))]) (λc j=>c.1<=a.length/\cQ j l g h c.2.1 c.2.2/\cB c.2.2=true/\cz l g h f j/\ ∀n,mv c.2.1 c.2.2 ((a.drop c.1).map cg.d) n->mv i d (a.map cg.d) n) (λc=>a.length - c.1) (0,i,d) ⟨⟨a5q _,p,k,cz.of o,λn j=>j⟩,aU⟩ ?_;rintro⟨d,q,r⟩ w ⟨c,o,p,s,i⟩ k
 dsimp only at c o p i|-
 obtain⟨y,z,t,A⟩:=b.x;have x:e≠l:=by rintro rfl;rw[t]at m;cases m
 have B:=s e _ x b.jr b.js t;refine aa ?_;refine aH (λk=> ?_) λk=> ?_
 .have u:d<a.length:=a9r;have c:a[d]? =some a[d]:=a4J u;have C:=vy c;have C:=v _ (a4Q c);have c:a.drop d=a[d]::a.drop (d+1):=a5e u;rw[c]at i;generalize a[d]=c at*;have v:=λf j=>zH f l g h q r j (vz p) p c C;rw[a5j]at i;have g:c.C.length=4:=rfl;have f:(.agg (c.C.take 4):R)=c.V:=rfl;have f:aY true 4 c.C=c.V:=rfl;have f:c.V.cells=c.C:=rfl;generalize c.C=f at*;generalize c.V=c at*;have c:putAt [R.v (.int .u8 0),.v (.string ⟨#[]⟩),.J [] .nil,.J [] .nil] 0 f=f:=qm g;refine aa ?_;refine aP λg h=> ?_;refine aa ?_;have c:=U.ae (Y:= .cells f) (U.a1 (f:=w)) h;generalize w.set g _=f at*;have v:=v f (o.sub c);refine ai v ?_;rintro _ f ⟨res,f,rfl,l,g⟩;have v:=(s.trans (cz.of c)).trans g;refine aa ?_;refine aH (λc2=> ?_) λc2=> ?_
  .refine⟨_,U.a1,res,i _ (.stop f c2),rfl,?_,?_⟩
   .rw[if_neg c2];exact⟨l.gh,⟨y,z,v e _ x b.jr b.js t,A⟩,b.jr,b.js⟩
   .exact λe g t h k c=>v e g (by rintro rfl;rw[m]at c;cases c) h k c
  .have aI:res.1=0:=c2;exact⟨(d+1,res.2.2,res.2.1),⟨u,l,GG p f,λn j=>i _ (.step f aI j)⟩,rfl,by simp only;omega⟩
 .obtain rfl:d=a.length:=a9r;rw[a7s]at i;obtain⟨a,d,f,j⟩:=o.x;have l:=U.af f;have f:=U.aJ B;refine aa ?_;refine⟨_,U.a1,(0,r,q),i _ (.nil q r),rfl,?_,?_⟩
  .exact⟨o.gh.set ⟨b.jr,b.js⟩,⟨a,d,U.ah _ _ _,j⟩,b.jr,b.js⟩
  .exact λe g t h k c=>by rw[U.an _ _ t];exact s e g (by rintro rfl;rw[m]at c;cases c) h k c
def a3v (a:U) (c d:Nat) (b:List aS) (i:fF a c b) (h:cP d b) (e:d<=1000):
  AC Tryz.prog 25 [.ptr c 0] a λe d=>a.sub d/\ ∃j c,e= .J j c/\az dE (b.map aS.bA) j:=by
 obtain⟨e,c,m,e⟩:=i;have c:=e.len;have c:=h.dI;refine aO hm Kf ?_;refine cj [0] (λc:Nat×List R×Own=> [(3,.J c.2.1 c.2.2),(4,.v (.int .i64 (c.1:Int)))]) (λc d=>c.1<=b.length/\bj a d 76 c.2.1 c.2.2/\az dE ((b.take c.1).map aS.bA) c.2.1) (λc=>b.length - c.1) (0,[],.nil) ⟨⟨a5q _,bj.nil U.a1,trivial⟩,aU⟩ ?_;rintro⟨f,j,w⟩ r ⟨a,d,g⟩ k
 dsimp only at a d g|-
 have t:=U.af (d.sub _ _ m);have a:=g.len;rw[a4V,a4N]at a;refine aa ?_;refine aH (λa=> ?_) λa=> ?_
 .have a:f<b.length:=a9r;have l:b[f]? =some (b.getD f default):=by simp[List.getD,a]
  obtain⟨_,k,k,k,n,n,s,x,rfl,n,o,q,u⟩:=e.get l;have e:=h.ok _ (a4Q l);have y:=eU (a:=b) (b:=default) (e:=f) a;generalize b.getD f default=a at*;have h:=e.c;have h:=e.dB.cr;have o:=(fi (a:=a.aC.length+1) a9r a9r e.dB.fj a9r).le a9r a9r;have p:(hI a.ck).sum.length=32/\(hI a.ck).cF:=by
   rcases zM (e:=a.aC.length+1) a9r a9r e.go with ⟨_,l⟩|⟨_,l⟩
   .rw[l];exact⟨bl,mf⟩
   .have h:=e.nI.length_eq;have h:=e.dI;have:=l.le a9r a9r;exact⟨this.2.1,this.2.2⟩
  have v:=U.af (d.sub _ _ n);have h:=q.cells;have eR:=u.cells;refine aa ?_;refine ai (zZ (c:=a.aC.length+1) a9r a9r a.bL s r (q.mono d.sub) e.dB.fj a9r) ?_;rintro _ z ⟨h,q,r,s,rfl⟩;have t:=U.af (h _ _ (d.sub _ _ m));have v:=U.af (h _ _ (d.sub _ _ n));refine aa ?_;refine ai (a3p (e:=a.aC.length+1) a9r a9r a.ck x z (u.fH (U.o4 (U.aq d.sub h))) e.go) ?_;rintro _ e ⟨e,ch,ca,cX,rfl⟩;have t:=U.af (e _ _ (h _ _ (d.sub _ _ m)));have v:=U.af (e _ _ (h _ _ (d.sub _ _ n)));have n:a.aC.length<=1000000:=a9r;have m:eu ⟨a.name,a.aC,aA,aA⟩ (bd a.name:: .J (bF a.aC) k::(ab aA .nil .nil .nil++ab aA .nil .nil .nil)):=⟨⟨k,_,_,_,_,_,_,rfl⟩,⟨bl,mf⟩,⟨bl,mf⟩,n⟩;have n:=m.FV (N:=q) (e5:=r) (h5:=s) o.2.1 o.2.2;have t:=n.FW (N:=ch) (e5:=ca) (h5:=cX) p.1 p.2;have u:putAt cy 0 [bd a.name]=bd a.name:: .J [] .nil::(ab aA .nil .nil .nil++ab aA .nil .nil .nil):=rfl;have u:putAt (bd a.name:: .J [] .nil::(ab aA .nil .nil .nil++ab aA .nil .nil .nil)) 1 [.J (bF a.aC) k]=bd a.name:: .J (bF a.aC) k::(ab aA .nil .nil .nil++ab aA .nil .nil .nil):=rfl;have u:(cy).length=76:=fV.all.1;have u:(bd a.name:: .J [] .nil::(ab aA .nil .nil .nil++ab aA .nil .nil .nil)).length=76:=by omega
  have u:=m.all.1;have u:=n.all.1;have u:=t.all.1;have v:=(aX (N:=q) (e5:=r) (h5:=s) o.2.1).len;have o:=(aX (N:=ch) (e5:=ca) (h5:=cX) p.1).len;have o:=jq;generalize cy=p at*;generalize bd a.name:: .J [] .nil::(ab aA .nil .nil .nil++ab aA .nil .nil .nil)=p at*;generalize bd a.name:: .J (bF a.aC) k::(ab aA .nil .nil .nil++ab aA .nil .nil .nil)=k at*;generalize p:ab (bn a.bL) q r s=q at*;generalize r:ab (hI a.ck) ch ca cX=a at*;generalize s:putAt k 2 q=k at*;generalize q:putAt k 39 a=a at*;clear p r m n;rw[o];clear o;refine aa ?_;have k:aN 76 [R.agg a]:=λl l=>by rw[a4Z]at l;subst l;exact u
  refine cJ U.a1 k λl l l=> ?_;refine aa ?_;refine dq (((d.mono h).mono e).mono l.sub) (g.cells λc c i=>by obtain⟨T,rfl,i⟩:=i;exact i.all.1) k a9t a9t λc e e=> ?_;refine aa ?_;refine⟨(f+1,j++ [.agg a],c),⟨by simp only;omega,e,?_⟩,⟨rfl,rfl⟩,by simp only;omega⟩;simp only[y,a5P];exact g.snoc ⟨a,rfl,t⟩
 .obtain rfl:f=b.length:=a9r;rw[a5h]at g;exact⟨d.sub,j,w,rfl,g⟩
def a3w (p:cP e X) (r:e<=1000): ∀o∈X.map aS.bA,o.In:=λo x=>by
 obtain⟨d,y,rfl⟩:=a5f.1 x;have c:=p.ok d y;have C:=c.c;have D:=c.dB.cr;have a:=(fi (a:=d.aC.length+1) a9r a9r c.dB.fj a9r).kL a9r;refine⟨FO (c.bA r),?_,?_⟩
 .show(bn d.bL).In 8;have:=a.od;have:=a.oe;have:=a.og;exact⟨a.sum,a.aV,a.aW,a.key,a9r,a9r,a9r,a.nd,a.live,a.nf,a.size⟩
 .show(hI d.ck).In 8;rcases zM (e:=d.aC.length+1) a9r a9r c.go with ⟨_,k⟩|⟨_,k⟩
  .rw[k];have h:cL []:=λE z=>(by cases z);exact⟨bl,h,h,h,a5q _,a5q _,a5q _,a9v,a9v,a9v,a9v⟩
  .have h:=c.nI.length_eq;have F:=c.dI;have b:=k.kL a9r;have:=b.od;have:=b.oe;have:=b.og;exact⟨b.sum,b.aV,b.aW,b.key,a9r,a9r,a9r,b.nd,b.live,b.nf,b.size⟩
def vA (d h:U):Prop:= ∀b a c,d b=some (.cells (a::c))->((∃k o,a= .J k o)\/ ∃p,a=bd p)->h b=some (.cells (a::c))
def dS.mw {b c:U} (a:vA b c): ∀ {d:aD}{h:R},dS b d h->dS c d h
 | .nil,_,k=>k
 | .node _ _ _ _,_,⟨o,p,r,x,h1,y,z,C⟩=>⟨o,p,r,x,h1,a _ _ _ y (.inl ⟨_,_,rfl⟩),z.mw a,C.mw a⟩
def gL.mw {b c:U} (a:vA b c) {d:aS}{h:R} (o:gL b d h):gL c d h:=by obtain⟨p,r,x,y,k,z,C,D,E,F,G⟩:=o;exact⟨p,r,x,y,k,z,C,a _ _ _ D (.inr ⟨_,rfl⟩),E,F.mw a,G.Gl λP S T k V L=>a _ _ _ L (.inl ⟨_,_,rfl⟩)⟩
def fF.mw {b c:U} (d:vA b c) {h:Nat}{k:List aS} (a:fF b h k):fF c h k:=by obtain⟨o,p,r,x⟩:=a;exact⟨o,p,d _ _ _ r (.inl ⟨_,_,rfl⟩),x.mono λy z a=>a.mw d⟩
theorem cz.rs (c:cQ f e i v H b9) (h:cz e i v f t):vA f t:=λk r x a d=>by
 obtain⟨y,z,o,_⟩:=c.x;obtain⟨C,D,p⟩:=c.gh.at_;obtain⟨E,⟨F,G,L,_⟩,_⟩:=c.gh.mp;refine h k _ ?_ ?_ ?_ a
 .rintro rfl;rw[o]at a;obtain⟨rfl,_⟩:=a8y (bq.cells.inj (a4I a));rcases d with ⟨_,_,b⟩|⟨_,b⟩<;>cases b
 .rintro rfl;rw[p]at a;obtain⟨rfl,_⟩:=a8y (bq.cells.inj (a4I a));rcases d with ⟨_,_,b⟩|⟨_,b⟩<;>cases b
 grind
def cQ.GH (a:cQ f i v M H b9) (o:fF f e X) (d:ef e f t):cQ t i v M H b9:=by
 obtain⟨p,r,h,x⟩:=a.x;obtain⟨D,E,b⟩:=a.gh.at_;obtain⟨F,⟨G,L,c,P⟩,S⟩:=a.gh.mp;obtain⟨T,V,k,_⟩:=o;have y:i≠e:=by rintro rfl;rw[k]at h;cases h
 have z:v≠e:=by rintro rfl;rw[k]at b;cases b
 have C:M≠e:=by rintro rfl;rw[k]at c;cases c
 exact⟨a.gh.other (by rw[b];exact d _ _ z b) (by rw[c];exact d _ _ C c),⟨p,r,d _ _ y h,x⟩,a.jr,a.js⟩
structure vB (b:U) (c gE d W:Nat) (a:ag) (l:List aK) (cC:List aS) (n:Nat):Prop where
 st:cQ b c gE d a l
 cat:cB l=true
 rs:fF b W cC
 inv:cP n cC
 rep:a.one=false->fW a l cC
def vB.step {L y z:U}{h k o p C:Nat}{D:ag}{P:List aK}{r:List aS} (a:vB L h k o p D P r C) (E:C<900) {c:cq} (F:cL c.row) {b:Int×List aK×ag} (x:eB D P c b)
  (S:cQ y h k o b.2.2 b.2.1) (T:cz h k o L y) (V:fF z p (ee r c).2) (W:ef p y z):vB z h k o p b.2.2 b.2.1 (ee r c).2 (C+1)/\D.le b.2.2/\(b.2.2.one=false->b.1=(ee r c).1):=by
 have G:=A0 x;have e:=a.rs.mw (T.rs a.st);refine⟨⟨S.GH e W,GG a.cat x,V,rl a.inv E F,λd=>(pS x a.inv E F (a.rep (G.zero d)) d).2⟩,G,λd=>(pS x a.inv E F (a.rep (G.zero d)) d).1⟩
def cq.hJ (a:cq):Prop:=a.table.length<=100/\a.aC.length<=20/\(∀b∈a.aC,b.length<=100)/\a.row.length<=50
def cq.hJ.fit (a:b8.hJ):b8.Fit:=⟨by have:=a.1;omega,by have:=a.2.1;omega,λb c=>by have:=a.2.2.1 b c;omega,by have:=a.2.2.2;omega⟩
theorem GI (b:List cg) (D:Own) (p:U) (W:b.length<=9223372036854775807):
  AC Tryz.prog 9 [.J (jy b) D] p λE F=>F=p/\ ∃r,E= .v (.bool r)/\(r=false->b.length<=300/\ ∀h∈b,h.d.hJ):=by
 have e:=rm (a:=b);refine aO hm JR ?_;refine aH (λx=> ?_) λf=> ?_;simp;refine gP [0] (λc:Nat=> [(3,.v (.int .i64 c))]) (λc=>c<=b.length/\ ∀h∈b.take c,h.d.hJ) (λc=>b.length - c) 0 ⟨a5q _,λh k=>by cases k⟩ aU ?_;rintro c ⟨g,G⟩ L;refine aa ?_;refine aH (λx=> ?_) λx=> ?_
 .have o:c<b.length:=a9r;have P:b[c]? =some b[c]:=a4J o;have i:=vy P;have S:b.take (c+1)=b.take c++ [b[c]]:=a5X o;generalize b[c]=a at*;have j:=cg.m1 (a:=a);have l:=cg.m2 (a:=a);have m:=cg.m3 (a:=a);have n:=cg.ZB (a:=a);have q:=hD (a:=a.d.aC);have s:=bI (q:=a.d.row);have t:=sR (B:=a.d.table);generalize a.C=u at*;refine aa ?_;refine aH (λT=> ?_) λT=> ?_;rotate_left;simp;refine aH (λc2=> ?_) λc2=> ?_;rotate_left;simp;refine aH (λaI=> ?_) λaI=> ?_;simp;refine gP [0,3] (λd:Nat=> [(4,.v (.int .i64 d))]) (λd=>d<=a.d.aC.length/\ ∀V∈a.d.aC.take d,V.length<=100) (λd=>a.d.aC.length - d) 0 ⟨a5q _,λh k=>by cases k⟩ aU ?_;rintro d ⟨v,y⟩ L;refine aa ?_;refine aH (λaM=> ?_) λaM=> ?_
  .have z:d<a.d.aC.length:=a9r;have w:=pA (a:=a.d.aC) z;have A:a.d.aC.take (d+1)=a.d.aC.take d++ [a.d.aC.getD d []]:=eU z;have B:=sR (B:=a.d.aC.getD d []);generalize a.d.aC.getD d []=H at*;refine aa ?_;refine aH (λbp=> ?_) λbp=> ?_;simp;grind
  .obtain rfl:d=a.d.aC.length:=a9r;rw[a5h]at y;refine⟨c+1,⟨o,λh C=> ?_⟩,rfl,a9r⟩;rw[S]at C;rcases a5c.1 C with k|k
   .exact G h k
   .obtain rfl:=a4Z.1 k;exact⟨a9r,a9r,y,a9r⟩
 grind
def tl (a:U) (c d h:Nat) (b:ag) (k:List aK) (o:cQ a c d h b k):
  AC Tryz.prog 22 [.ptr c 0] a λp r=>a.sub r/\p= .v (.bool b.one):=by
 refine aO hm K9 ?_;refine bk (a2d a c d h b k o) ?_;refine ai (Y1 a d h b o.gh) ?_;rintro _ x ⟨y,z,C,rfl⟩;refine aa ?_;trivial
theorem A2 (a:eB H b9 b8 h3) (r:cP e X) (f:e<900) (o:cL b8.row) (F:fW H b9 X) (c:(ee X b8).1≠0):h3=((ee X b8).1,b9,H):=by
 obtain⟨rfl,G⟩:=F;unfold eB at a;unfold ee at c|-;by_cases L:eb b8=false;grind;rw[if_neg L]at a c|-;have D:eb b8=true:=by cases h:eb b8<;>simp_all
 by_cases p:b8.kind=1
 .rw[if_pos p]at a c|-;have P:=zT D p;rw[add_eq r a9r P]at a;by_cases c2:c3 X b8.table<X.length
  .rw[if_pos c2]at a c|-;exact a
  rw[if_neg c2]at a c|-;by_cases aI:7<X.length
  .rw[if_pos aI]at a c|-;exact a
  simp_all
 rw[if_neg p]at a c|-;by_cases aI:b8.kind=2
 .rw[if_pos aI]at a;rw[zU r a9r]at a;by_cases c2:c3 X b8.table<X.length;grind
  .rw[if_neg c2]at a;rw[if_pos a9r];exact a
 rw[if_neg aI]at a;by_cases c2:X.length<=c3 X b8.table
 .rw[if_pos c2];have x:(X.map aS.bA).find? (λb=>decide (b.name=b8.table))=none:=by rw[pQ,a7D c2];rfl
  simp_all [tk,if_pos,lF,if_neg,ju,mr]
 rw[if_neg c2,if_neg aI]at c|-;have y:c3 X b8.table<X.length:=a9r;have E:=vw y;have d:=r.ok _ E;have g:=tj y;have x:(X.map aS.bA).find? (λb=>decide (b.name=b8.table))=some (X.getD (c3 X b8.table) default).bA:=by rw[pQ,a5u,a4J y];rfl
 generalize X.getD (c3 X b8.table) default=b at*;have i:=d.c;obtain⟨z,j⟩:=G b E;have l:=d.dB.cr;rcases tk D p aI with k|k
 .rw[if_pos k]at a;rw[if_neg (show¬b8.kind=4 by rw[k];decide)]at c|-;unfold lF at a;rw[x]at a
  dsimp only at a
  by_cases aM:b8.row.length=b.aC.length+1
  .rw[if_neg (show¬b8.row.length≠b.aC.length+1 from λh=>h aM)];rw[if_pos (show b8.row.length=b.bA.aC.length+1 from aM)]at a;have m:bO (b.aC.length+1) b8.row:=⟨aM,o⟩;rcases a with ⟨S,_⟩|⟨rows,T,_,a⟩
   .exact absurd S (zD (e:=b.aC.length+1) (a8:=b.bL) a9r a9r d.dB.fj a9r z)
   have V:=zF (e:=b.aC.length+1) (a8:=b.bL) a9r a9r d.dB.fj a9r z T;have n:rows= []↔ ¬b.rows.any (λC=>decide (bR C=bR b8.row))=true:=by
    rw[V,a7I];constructor
    .rintro h ⟨C,o,W⟩;exact h C (d.gd.mem_iff.2 o) ((zG (e:=b.aC.length) a9r (d.row o)).2 (of_decide_eq_true W))
    grind
   grind
  .rw[if_neg (show¬b8.row.length=b.bA.aC.length+1 from aM)]at a;rw[if_pos aM];exact a
 .rw[if_neg (by rw[k];decide)]at a;rw[if_pos k]at c|-;unfold ju mr at a;rw[x]at a
  dsimp only at a
  by_cases aM:b8.row.length=b.aC.length+1
  .rw[if_neg (show¬b8.row.length≠b.aC.length+1 from λh=>h aM)];rw[if_pos (show b8.row.length=b.bA.aC.length+1 from aM)]at a
   dsimp only at a
   rw[if_pos rfl]at a;by_cases bD:b8.row∈b.rows;simp_all
   .rw[if_neg bD];have q:=FD (e:=b.aC.length+1) (q:=b8.row) a9r a9r d.dB.fj a9r z (d.none aM bD);grind[aS.bA,fE,iP,bn]
  .rw[if_neg (show¬b8.row.length=b.bA.aC.length+1 from aM)]at a;simp_all
def pT:List UInt8:=dc (cm ([1,5],true) aA aA)
def tm:List UInt8:=dc (dH [[1,5]])
def a3x:eV pT≠eV tm:=by unfold eV;decide+kernel
def fX:ag:=eO (eO ag.new pT) tm
def GJ:fX.one=false:=by unfold fX eO;have a:ag.new.m (eV pT)=none:=rfl;rw[a];have b:(if eV tm=eV pT then some pT else none)=none:=if_neg (a4S a3x);simp only[ag.new,b]
theorem GK (a:eB H b9 b8 h3) (b:b8.kind=1\/b8.kind=2):h3.2.2=H:=by grind[eB,absurd]
theorem A3:bO 2 [1,5]:=⟨rfl,λa b=>by
 grind⟩
def a3y (a:e6.bL=aA) (b:e6.ck=aA):(fE (λH=>nD 2 [1,5] H e6.bL) (λH=>iJ 2 [1,5] H e6.ck) H b9 e6).2.2=eO (eO H pT) tm:=by
 have c:=(va (e:=2) (I:=true) a9r a9r A3 (z8 (e:=2)) (z8 (e:=2)) a9v).2.2;have d:=(uF (e:=2) a9r a9r (O:= [[1,5]]) a9s a9s (λp h=>by obtain rfl:=a4Z.1 h;exact A3)).oz;have k: ∀H:ag,nD 2 [1,5] H aA=(.ok (eW (cm ([1,5],true) aA aA)),eO H pT):=λH=>by
  unfold nD;rw[jm,if_pos rfl];exact oA c H
 have o: ∀H:ag,iJ 2 [1,5] H aA=(.ok (eW (dH [[1,5]])),eO H tm):=λH=>by
  unfold iJ;rw[if_pos rfl];exact oA d H
 unfold fE;simp only[a,b,k,o]
def hK:aS:=⟨[116],[[97]],[],.nil,none⟩
def eC:aS:=hK.put [1,5]
def rn:cq:=⟨1,[116],[[97]],[]⟩
def kg:cq:=⟨3,[116],[],[1,5]⟩
def pU:cq:=⟨3,[116],[],[1,6]⟩
def pV:cq:=⟨3,[116],[],[2,3,4]⟩
def tn:cq:=⟨4,[116],[],[1,6]⟩
def tp:cq:=⟨2,[116],[],[]⟩
theorem ch:ee [] rn=(0,[hK]):=a9w
theorem ca:ee [hK] kg=(0,[eC]):=a9w
def cX:(ee [eC] pU).1=8:=a9w
def dZ:(ee [eC] pV).1=6:=a9w
def gS:(ee [eC] tn).1=9:=a9w
def ej:ee [eC] tp=(0,[]):=a9w
def a3z:eC.rows= [[1,5]]:=a9w
def a3A (a:eB ag.new ([hK].map aS.bA) kg h3) (d:cP 1 [hK]):h3.2.2=fX:=by
 unfold eB at a;rw[if_neg (show¬eb kg=false by decide+kernel),if_neg (show¬kg.kind=1 by decide),if_neg (show¬kg.kind=2 by decide),if_pos (show kg.kind=3 from rfl)]at a;unfold lF at a;have h:([hK].map aS.bA).find? (λk=>decide (k.name=kg.table))=some hK.bA:=by rfl
 rw[h]at a
 dsimp only at a
 rw[if_pos (show kg.row.length=hK.bA.aC.length+1 from rfl)]at a;have b:=d.ok hK a9s;rcases a with ⟨o,_⟩|⟨rows,p,_,a⟩
 .exact absurd o (zD (e:=2) (a8:= .nil) a9r a9r b.dB.fj a9v trivial)
 have r:=zF (e:=2) (a8:= .nil) a9r a9r b.dB.fj a9v trivial p;rcases a with ⟨c,a⟩|⟨c,a⟩
 .rw[a];exact a3y rfl rfl
 .exact absurd (r.2 λy x=>by cases x) c
def a3B: ∀ {a b:List Int},kQ a b->bR a<=bR b
 |d::a,h::b,c=>by
  show d<=h;rcases c with c|c<;>omega
def eQ.cmp (a:eQ e j7):j7.rows.Pairwise λb c=> ¬fR c b<0:=by refine a7S ?_ a.ea;intro b c h k o d;rw[r7 (by rw[(a.row h).len,(a.row k).len])]at d;have:=a3B d;omega
theorem GL (k:U) (x F G:Nat) (o:ag) (L:List aK) (W:cQ k x F G o L) (P:Nat) (a:List aS) (y:cP P a) (e:P<=1000) (f:fW o L a) (c:List UInt8):
  AC Tryz.prog 27 [.ptr x 0,bd c] k λz S=>k.sub S/\(c3 a c<a.length-> ∃T,z= .aL [.J T .any,.v (.int .i64 0)]/\az isRow (a.getD (c3 a c) default).rows T)/\(a.length<=c3 a c->z= .aL [.J [] .nil,.v (.int .i64 3)]):=by
 obtain⟨rfl,g⟩:=f;have i:=y.cat e;have j: ∀b,a[c3 a c]? =some b-> ∃d,en o (b.bA.aC.length+1) (b.bA.bL.size.toNat+1) b.bA.bL=some d/\b.rows.Perm d:=λb l=>by
  have hm:=a4Q l;have p:=y.ok b hm;have s:=p.c;have t:=p.dB.cr;obtain⟨d,C,D⟩:=FB (e:=b.aC.length+1) a9r a9r p.dB.fj a9r (g b hm).1;exact⟨d,C,(D.trans p.gd).symm⟩
 refine(a2m k x F G o (a.map aS.bA) W i c (a.getD (c3 a c) default).rows ?_).mono λz S m=>⟨m.1,λn=> ?_,λn=> ?_⟩
 .intro b d h V;rw[pQ]at h;cases r:a[c3 a c]? with
  |none=>rw[r]at h;cases h
  |some E=>
   rw[r]at h;obtain rfl:=a4I h;obtain⟨u,C,D⟩:=j E r;rw[C]at V;obtain rfl:=a4I V;have q:a.getD (c3 a c) default=E:=by grind
   rw[q];exact⟨D,(y.ok E (a4Q r)).cmp⟩
 grind[vn,c3,default,List.getD,pQ];grind[vn,pQ,List.getElem?_eq_none]
def a3C:rn.Fit:=cq.hJ.fit (by unfold cq.hJ;decide)
def a3D:kg.Fit:=cq.hJ.fit (by unfold cq.hJ;decide)
def a3E:pU.Fit:=cq.hJ.fit (by unfold cq.hJ;decide)
def a3F:pV.Fit:=cq.hJ.fit (by unfold cq.hJ;decide)
def a3G:tn.Fit:=cq.hJ.fit (by unfold cq.hJ;decide)
def a3H:tp.Fit:=cq.hJ.fit (by unfold cq.hJ;decide)
theorem A4:cL []:=λb a=>by cases a
theorem vC:cP 1 [hK]:=by grind[rl,cP.nil,rn,A4,ch]
theorem GM:cL pU.row:=λa b=>by
 grind[pU]
theorem a3I:cL pV.row:=λa b=>by
 grind[pV]
theorem rp:cP 2 [eC]:=by grind[rl,vC,kg,ca]
def zR (c:eB ag.new [] rn h3):h3=(0,[hK].map aS.bA,ag.new)/\fW ag.new ([hK].map aS.bA) [hK]:=by
 have a:=GK c (.inl rfl);have b:=pS c (cP.nil (n:=0)) a9r A4 (X:= []) ⟨rfl,λk h=>by cases h⟩ (by rw[a];rfl);rw[ch]at b;obtain⟨v,o,p⟩:=h3
 dsimp only at a b
 obtain⟨rfl,d⟩:=b;subst a;obtain rfl:=d.eq;exact⟨rfl,d⟩
def zS (d:eB ag.new ([hK].map aS.bA) kg h3) (a:fW ag.new ([hK].map aS.bA) [hK]):h3=(0,[eC].map aS.bA,fX)/\fW fX ([eC].map aS.bA) [eC]:=by
 have b:=a3A d vC;have c:=pS d vC a9r A3.jV a (by rw[b];exact GJ);rw[ca]at c;obtain⟨v,h,k⟩:=h3
 dsimp only at b c
 obtain⟨rfl,a⟩:=c;subst b;obtain rfl:=a.eq;exact⟨rfl,a⟩
def a3J (a:eB fX ([eC].map aS.bA) pU h3) (b:fW fX ([eC].map aS.bA) [eC]):h3=(8,[eC].map aS.bA,fX):=by have c:=A2 a rp a9r GM b (by rw[cX];decide);rwa[cX]at c
def a3K (a:eB fX ([eC].map aS.bA) pV h3) (b:fW fX ([eC].map aS.bA) [eC]):h3=(6,[eC].map aS.bA,fX):=by have c:=A2 a rp a9r a3I b (by rw[dZ];decide);rwa[dZ]at c
def a3L (a:eB fX ([eC].map aS.bA) tn h3) (b:fW fX ([eC].map aS.bA) [eC]):h3=(9,[eC].map aS.bA,fX):=by have c:=A2 a rp a9r GM b (by rw[gS];decide);rwa[gS]at c
def a3M (d:eB fX ([eC].map aS.bA) tp h3) (a:fW fX ([eC].map aS.bA) [eC]):h3=(0,[],fX)/\fW fX [] []:=by
 have b:=GK d (.inr rfl);have c:=pS d rp a9r A4 a (by rw[b];exact GJ);rw[ej]at c;obtain⟨v,h,k⟩:=h3
 dsimp only at b c
 obtain⟨rfl,a⟩:=c;subst b;obtain rfl:h= []:=a.eq;exact⟨rfl,a⟩
def GN:cB []=true:=(cP.nil (n:=0)).cat a9r
def a3N:cB ([hK].map aS.bA)=true:=vC.cat a9r
def vD:cB ([eC].map aS.bA)=true:=rp.cat a9r
def a3O (a:Own):(⟨rn,a,.nil⟩:cg).V= .agg [.v (.int .u8 1),.v (.string ⟨#[116]⟩),.J [.v (.string ⟨#[97]⟩)] a,.J [] .nil]:=rfl
def a3P (a:Own):(⟨kg,.nil,a⟩:cg).V= .agg [.v (.int .u8 3),.v (.string ⟨#[116]⟩),.J [] .nil,.J [.v (.int .i64 1),.v (.int .i64 5)] a]:=rfl
def a3Q (a:Own):(⟨pU,.nil,a⟩:cg).V= .agg [.v (.int .u8 3),.v (.string ⟨#[116]⟩),.J [] .nil,.J [.v (.int .i64 1),.v (.int .i64 6)] a]:=rfl
def a3R (a:Own):(⟨pV,.nil,a⟩:cg).V= .agg [.v (.int .u8 3),.v (.string ⟨#[116]⟩),.J [] .nil,.J [.v (.int .i64 2),.v (.int .i64 3),.v (.int .i64 4)] a]:=rfl
def a3S (a:Own):(⟨tn,.nil,a⟩:cg).V= .agg [.v (.int .u8 4),.v (.string ⟨#[116]⟩),.J [] .nil,.J [.v (.int .i64 1),.v (.int .i64 6)] a]:=rfl
def a3T:(⟨tp,.nil,.nil⟩:cg).V= .agg [.v (.int .u8 2),.v (.string ⟨#[116]⟩),.J [] .nil,.J [] .nil]:=rfl
def GO:bd [116]= .v (.string ⟨#[116]⟩):=rfl
variable{Q b5 h4 j1 j6:Prop}
theorem rq (h:cQ f e i v H b9) (b:cB b9=true) (a:cg) (k:a.d.Fit) (o:a.V=n) (p: ∀res,eB H b9 a.d res->res=h3/\Q):
  AC Tryz.prog 20 [.ptr e 0,n] f λc d=>c= .v (.int .i64 h3.1)/\cQ d e i v h3.2.2 h3.2.1/\Q:=by
 subst o;exact(zH f e i v H b9 h (vz b) b a k).mono λc d ⟨res,r,x,y,z⟩=>by
  grind
def A5:Nat->dN->dN
 |0,a=>a
 |b+1,.seq _ c=>A5 b c
 | _+1,a=>a
variable{j:Fr}
def a3U (P:j 1= .ptr e 0) (S:j 2= .v (.int .i64 0)) (T:j 3= .v (.int .i64 0)) (V:j 4= .v (.int .i64 8)) (W:j 5= .v (.int .i64 6)) (g:j 6= .v (.int .i64 9)) (c:cQ f e i v fX ([eC].map aS.bA)) (d:fW fX ([eC].map aS.bA) [eC]):
  bU (Ctx.of Tryz.prog) (A5 8 wB.code) (p5 [(0,none)] λz _=>z= .v (.bool true)) j f:=by
 simp only[wB,A5];refine aa ?_;have a:=GL f e i v fX _ c 2 _ rp a9r d [116];rw[GO]at a;refine ai a ?_;clear a;rintro _ fY ⟨k,b,_⟩;obtain⟨o,rfl,h⟩:=b a9v;have h:az isRow [[1,5]] o:=by rw[<-a3z];exact h
 have p:=c.sub k;clear c k b;refine aa ?_;refine ai (rq p vD ⟨tp,.nil,.nil⟩ a3H a3T λres C=>a3M C d) ?_;rintro _ D ⟨rfl,r,x⟩;clear p d;refine aa ?_;have a:=GL D e i v fX _ r 0 [] cP.nil a9r x [116];rw[GO]at a;refine ai a ?_;clear a;rintro _ l ⟨E,_,b⟩;obtain rfl:=b a9v;clear r x b E;refine aa ?_;refine cJ U.a1 (by simp[aN,R.cells]) λy m n=> ?_;refine aa ?_;refine cJ U.a1 (by simp[aN,R.cells]) λF q s=> ?_;refine aa ?_;have G:=λL=>Z3 [[1,5]] [[1,5]] o [.J [.v (.int .i64 1),.v (.int .i64 5)] y] .any F L h ⟨⟨y,rfl⟩,trivial⟩ a9s a9s;refine bk (G _) ?_;exact⟨_,U.a1⟩
def a3V (c:U):AC Tryz.prog 8 [] c λS W=>S= .v (.bool true):=by refine aO hm JP ?_;generalize T:dN.seq (dN.plain (aB 36 1:: _)) _=e;refine ai (FU c) ?_;rintro _ f ⟨g,i,j,rfl,-,-,-,-,d⟩;refine aa ?_;refine cJ U.a1 (by simp[aN,R.cells]) λh l k=> ?_;refine aa ?_;refine ai (rq (d.sub k.sub) GN ⟨rn,h,.nil⟩ a3C (a3O h) λres a=>zR a) ?_;rintro _ m ⟨rfl,o,p⟩;clear k d;refine aa ?_;refine cJ U.a1 (by simp[aN,R.cells]) λr n x=> ?_;refine aa ?_;refine ai (rq (o.sub x.sub) a3N ⟨kg,.nil,r⟩ a3D (a3P r) λres a=>zS a p) ?_;rintro _ q ⟨rfl,y,b⟩;clear x o p;refine aa ?_;refine cJ U.a1 (by simp[aN,R.cells]) λz s C=> ?_;refine aa ?_;refine ai (rq (y.sub C.sub) vD ⟨pU,.nil,z⟩ a3E (a3Q z) (Q:=True) λres a=>⟨a3J a b,trivial⟩) ?_;rintro _ t ⟨rfl,D,-⟩;clear C y;refine aa ?_;refine cJ U.a1 (by simp[aN,R.cells]) λE u F=> ?_;refine aa ?_;refine ai (rq (D.sub F.sub) vD ⟨pV,.nil,E⟩ a3F (a3R E) (Q:=True) λres a=>⟨a3K a b,trivial⟩) ?_;rintro _ v ⟨rfl,G,-⟩;clear F D;refine aa ?_;refine cJ U.a1 (by simp[aN,R.cells]) λL w P=> ?_;refine aa ?_;refine ai (rq (G.sub P.sub) vD ⟨tn,.nil,L⟩ a3G (a3S L) (Q:=True) λres a=>⟨a3L a b,trivial⟩) ?_;rintro _ A ⟨rfl,V,-⟩;clear P G;refine aa ?_;subst T;exact a3U rfl rfl rfl rfl rfl rfl V b
structure rr (a b:U) (c gE d W:Nat) (h:ag) (l:List aK) (cC:List aS) (n:Nat):Prop where
 kW:vB b c gE d W h l cC n
 sub:a.sub b
 GP:a c=none
 GQ:a gE=none
 GR:a d=none
 xT:a W=none
def rr.step {D E x y:U}{h k o p z:Nat}{C:ag}{F:List aK}{r:List aS} (a:rr D E h k o p C F r z) (T:z<900) {d:cq} (V:cL d.row) {c:Int×List aK×ag} (W:eB C F d c)
  (e:cQ x h k o c.2.2 c.2.1) (G:cz h k o E x) (f:fF y p (ee r d).2) (L:ef p x y):rr D y h k o p c.2.2 c.2.1 (ee r d).2 (z+1)/\C.le c.2.2/\(c.2.2.one=false->c.1=(ee r d).1):=by
 obtain⟨g,i,j⟩:=a.kW.step T V W e G f L;refine⟨⟨g,λP S b=>L P S ?_ (G P S ?_ ?_ ?_ (a.sub _ _ b)),a.GP,a.GQ,a.GR,a.xT⟩,i,j⟩
 .rintro rfl;rw[a.xT]at b;cases b
 .rintro rfl;rw[a.GP]at b;cases b
 .rintro rfl;rw[a.GQ]at b;cases b
 .rintro rfl;rw[a.GR]at b;cases b
theorem a3W (e:List cg) (b:Own) (i:U) (p: ∀a∈e,a.d.hJ/\cL a.d.row) (c:e.length<=9223372036854775807):
  AC Tryz.prog 10 [.J (jy e) b] i λa j=>a= .aL [.v (.pointer none),.v (.pointer none)]\/ ∃c f g W d h k b,a= .aL [.ptr c 0,.ptr W 0]/\b<=40/\d.one=false/\rr i j c f g W d h k b:=by
 have a:=rm (a:=e);refine aO hm JT ?_;refine ai (FU i) ?_;rintro _ m ⟨c,f,g,rfl,b,n,o,q,a⟩;refine aa ?_;refine aP λW l=> ?_;have r:=a.sub (U.ae (Y:= .cells [.J [] .nil]) U.a1 l);have a:rr i (m.set W (.cells [.J [] .nil])) c f g W ag.new [] [] 0:=⟨⟨r,GN,⟨[],.nil,U.ah _ _ _,trivial⟩,cP.nil,λ_=>⟨rfl,λm m=>by cases m⟩⟩,U.ae b (U.bG b l),n,o,q,U.bG b l⟩;refine aa ?_;refine cj [0,4,5] (λb:Nat×ag×List aK×List aS=> [(6,.v (.int .i64 (b.1:Int)))]) (λb j=>b.1<=40/\b.1<=e.length/\rr i j c f g W b.2.1 b.2.2.1 b.2.2.2 b.1) (λb=>40 - b.1) (0,ag.new,[],[]) ⟨⟨a9s,a5q _,a⟩,aU⟩ ?_;rintro⟨i,d,h,k⟩ j ⟨b,l,a⟩ n
 dsimp only at b l a|-
 refine aa ?_;refine aH (λb=> ?_) λb=> ?_
 .refine aH (λaM=> ?_) λaM=> ?_
  .have l:i<e.length:=a9r;have b:e[i]? =some e[i]:=a4J l;have n:=vy b;obtain⟨n,o⟩:=p _ (a4Q b);generalize e[i]=b at*;have p:=zH j c f g d h a.kW.st (vz a.kW.cat) a.kW.cat b n.fit;have q:=λe m=>Gz e W i k m a.kW.inv a9r b n.fit o;have m:b.C.length=4:=rfl;have m:(.agg (b.C.take 4):R)=b.V:=rfl;have m:aY true 4 b.C=b.V:=rfl;generalize b.C=m at*;generalize b.V=m at*;refine aa ?_;refine ai p ?_;rintro _ e ⟨res,n,rfl,p,m⟩;refine aa ?_;refine ai (q e (a.kW.rs.mw (m.rs a.kW.st))) ?_;rintro _ q ⟨q,r,rfl⟩;obtain⟨s,t,t⟩:=a.step a9r o n p m q r;refine aa ?_;exact⟨(i+1,res.2.2,res.2.1,(ee k b.d).2),⟨by simp only;omega,l,s⟩,rfl,by simp only;omega⟩
  .cases i:d.one with
   |true=>have b:=tl j c f g d h a.kW.st;rw[i]at b;refine ai b ?_;rintro _ e ⟨k,rfl⟩;refine aa ?_;grind
   |false=>have b:=tl j c f g d h a.kW.st;rw[i]at b;refine ai b ?_;rintro _ e ⟨k,rfl⟩;refine aa ?_;grind
 .cases i:d.one with
  |true=>have b:=tl j c f g d h a.kW.st;rw[i]at b;refine ai b ?_;rintro _ e ⟨k,rfl⟩;refine aa ?_;grind
  |false=>have b:=tl j c f g d h a.kW.st;rw[i]at b;refine ai b ?_;rintro _ e ⟨k,rfl⟩;refine aa ?_;grind
def A6 {b:List cq} (a:mv H b9 b h3):H.le h3.2.2:=by
 induction a with
 |nil H b9=>exact ag.le_refl
 |stop a _=>exact A0 a
 |step a _ _ ih=>exact(A0 a).trans ih
theorem GS: ∀ {a:List cq}{d:Nat}{b:List aS},cP d b->d+a.length<900->(∀c∈a,cL c.row)->(jz b a).1=0->cP (d+a.length) (jz b a).2
 | [],d,b,h,_,_,_=>h
 |c::a,d,b,h,p,o,k=>by
  rw[a4O]at p|-;rw[jz]at k|-;by_cases r:(ee b c).1=0
  .rw[if_pos r]at k|-;have:=GS (rl h a9r (o c a9s)) a9r (λc x=>o c (by simp[x])) k;grind
  grind
def a3X {a:List cq} (b:cP e X) (c:e+a.length<900) (d: ∀h∈a,cL h.row):cP (e+a.length) (kV X a).2:=by
 unfold kV;split
 .rename_i k;exact GS b c d k
 .exact b.le a9r
theorem a3Y {d:List cq} (h:mv H b9 d h3): ∀ {r:Nat}{b:List aS},cP r b->r+d.length<900->(∀a∈d,cL a.row)->fW H b9 b->h3.2.2.one=false->h3.1=(jz b d).1/\(h3.1=0->fW h3.2.2 h3.2.1 (jz b d).2):=by
 induction h with
 |nil H b9=>exact λk x c o p=>⟨rfl,λ_=>o⟩
 | @stop H b9 a z h3 h F=>intro r b k x c o p;rw[a4O]at x;obtain⟨y,_⟩:=pS h k a9r (c a a9s) o p;simp_all [jz,if_neg,absurd]
 | @step H b9 a z h3 G h he C ih=>intro r b k x c o p;rw[a4O]at x;obtain⟨y,D⟩:=pS h k a9r (c a a9s) o ((A6 C).zero p);rw[jz,if_pos (by rw[<-y];exact he)];exact ih (rl k a9r (c a a9s)) a9r (λa E=>c a (by simp[E])) D p
theorem a3Z {a:List cq} (b:mv H b9 a h3) (k:cP e X) (o:e+a.length<900) (p: ∀r∈a,cL r.row) (c:fW H b9 X) (x:h3.2.2.one=false):
  h3.1=(kV X a).1/\fW h3.2.2 (if h3.1=0 then h3.2.1 else b9) (kV X a).2:=by
 obtain⟨d,y⟩:=a3Y b k o p c x;unfold kV;by_cases h:h3.1=0;simp_all
 .rw[if_neg h,if_neg (by rw[<-d];exact h)];exact⟨d,c.mono (A6 b)⟩
theorem a4a (c a:List cg) (g e:Own) (i:c.length<=9223372036854775807) (k:a.length<=9223372036854775807) (m: ∀b∈c,cL b.d.row) (q: ∀b∈a,cL b.d.row) (f:U):
  AC Tryz.prog 6 [.J (jy c) g,.J (jy a) e] f λd _=>d= .v (.bool true):=by
 have d:=rm (a:=c);have d:=rm (a:=a);refine aO hm JO ?_;refine ai (a3V f) ?_;rintro _ d rfl;refine aa ?_;refine ai (GI c g d i) ?_;rintro _ d ⟨rfl,h,rfl,j⟩;cases h with
 |true=>refine aa ?_;exact⟨_,U.a1⟩
 |false=>
  obtain⟨l,n⟩:=j rfl;refine aa ?_;refine ai (GI a e d k) ?_;rintro _ d ⟨rfl,h,rfl,k⟩;cases h with
  |true=>refine aa ?_;exact⟨_,U.a1⟩
  |false=>
   obtain⟨h,l⟩:=k rfl;refine aa ?_;refine aH (λh=> ?_) λh=> ?_
   .exact⟨_,U.a1⟩
   clear j k;refine ai (a3W c g d (λb d=>⟨n b d,m b d⟩) i) ?_;rintro _ j (rfl|⟨g,h,i,W,k,m,n,r,rfl,c,o,p⟩)
   .refine aa ?_;exact⟨_,U.a1⟩
   refine aa ?_;have c:=p.kW;have s:=c.rep o;refine ai (a3u j g h i k m c.st c.cat a e (λb d=>(l b d).fit) a9r) ?_;rintro _ t ⟨res,o,rfl,u,j⟩;have p: ∀k∈a.map cg.d,cL k.row:=λk k=>by
    grind
   have k:(a.map cg.d).length=a.length:=a4V _;have v:=A6 o;refine aa ?_;refine ai (a3q t W r n (c.rs.mw (j.rs c.st)) c.inv a e a9r λb d=>⟨(l b d).fit,q b d⟩) ?_;rintro _ l ⟨q,b,rfl⟩;have e:=u.GH (c.rs.mw (j.rs c.st)) b;have b:=a3X c.inv (a:=a.map cg.d) a9r p;rw[k]at b;have d:=tl l g h i _ _ e;cases j:res.2.2.one with
   |true=>rw[j]at d;refine aa ?_;refine ai d ?_;rintro _ l ⟨k,rfl⟩;refine aa ?_;exact⟨_,U.a1⟩
   |false=>rw[j]at d;obtain⟨r,r⟩:=a3Z o c.inv (a:=a.map cg.d) a9r p s j;refine aa ?_;refine ai d ?_;rintro _ l ⟨k,rfl⟩;generalize kV n (a.map cg.d)=a at*;have c:(if res.1=0 then res.2.1 else m)=a.2.map aS.bA:=r.eq;rw[c]at e;have d:=e.sub k;have c:=b.cat a9r;refine aa ?_;refine ai (a2g l g h i _ _ d (vz c) c (a3w b a9r)) ?_;rintro _ c ⟨d,e,g,rfl,h⟩;refine aa ?_;refine ai (a3v c W _ a.2 (q.sub (U.aq k d)) b a9r) ?_;rintro _ c ⟨c,c,d,rfl,i⟩;have j:=λf=>ZK (a.2.map aS.bA) (a.2.map aS.bA) e c g d f h i (by have:=b.dI;rw[a4V];omega);refine aa ?_;refine bk (j _) ?_;exact⟨_,U.a1⟩
end Go.Proofs.YtlgnfcaolejgeaaGreat
