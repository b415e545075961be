import Derived.Test.YtcfpcblgmmeioaaGreatMI
import Derived.Test.YtcfpcblgmmeioaaGreatMF
import Derived.Test.YtcfpcblgmmeioaaGreatMH
import Derived.Test.YtcfpcblgmmeioaaGreatMD
import Derived.Test.YtcfpcblgmmeioaaGreatMC
import Derived.ProofKit
import Derived.OpenShut
import Derived.WideKeyArgs
import Derived.Test.YtcfpcblgmmeioaaGreatRows
import Derived.JoinedOf
set_option linter.all false
set_option maxRecDepth 100000
namespace Go.Proofs.YtcfpcblgmmeioaaGreat
open Go Go.bD
structure vZ (a:ag) (l:List aU) (cK:List bb):Prop where
 eq:l=cK.map bb.bR
 ins: ∀t∈cK,ds a t.bo/\ix a t.bu
theorem Hs {b c:ag->Except Int aq×ag} (r: ∀a:ag,a.le (b a).2) (x: ∀a:ag,a.le (c a).2) (a:ag) (y:List aU) (z:aU):a.le (gF b c a y z).2.2:=by
 unfold gF;have d:=r a;generalize b a=h at*;obtain⟨k,o⟩:=h;cases k with
 |error C=>exact d
 |ok D=>
  have p:=x o
  dsimp only
  generalize c o=h at*;obtain⟨k,E⟩:=h;cases k with
  |error C=>exact d.trans p
  |ok F=>exact d.trans p
variable{h5:bb}{a8:List bb}{e i v M b9 j2:Nat}{H:ag}
def Ht (F:ee e a8) (G:e<=1000) {a:bb} (L:ep i h5) (P:i<=1000) (y:h5.name=a.name) (S:h5.aD=a.aD) (T:ct a8 a.name<a8.length) {c b:ag->Except Int aq×ag}
  (r:gf H h5.bo (c H)) (h: ∀d:ag,H.le d->d.one=false->qd d h5.bu (b d)) (V: ∀d:ag,d.le (b d).2) (k:(gF c b H (a8.map bb.bR) a.bR).2.2.one=false):
  (gF c b H (a8.map bb.bR) a.bR).1=0/\(gF c b H (a8.map bb.bR) a.bR).2.1=(a8.set (ct a8 a.name) h5).map bb.bR/\H.le (gF c b H (a8.map bb.bR) a.bR).2.2/\ds (gF c b H (a8.map bb.bR) a.bR).2.2 h5.bo/\ix (gF c b H (a8.map bb.bR) a.bR).2.2 h5.bu:=by
 unfold gF at k|-;generalize c H=o at*;obtain⟨x,p⟩:=o;cases x with
 |error W=>cases (r.ins k).1
 |ok f=>
  dsimp only at k|-
  have C:=V p;have D:p.one=false:=by
   revert k;generalize b p=o at*;obtain⟨x,g⟩:=o;cases x with
   |error W=>exact λz=>C.zero z
   |ok f=>exact λz=>C.zero z
  obtain⟨j,l⟩:=r.ins D;obtain rfl:=Except.ok.inj j;have h:=h p r.le D;generalize b p=o at*;obtain⟨x,g⟩:=o;obtain rfl:=h.ok
  dsimp only at k|-
  have E:=pF F G L P (by rw[y];exact T);have m:h5.bR=⟨a.bR.name,a.bR.aD,bm h5.bo,gV h5.bu⟩:=by show(⟨h5.name,h5.aD,bm h5.bo,gV h5.bu⟩:aU)=⟨a.name,a.aD,bm h5.bo,gV h5.bu⟩;rw[y,S]
  rw[m,y]at E;rw[E];exact⟨rfl,rfl,r.le.trans h.le,l.mono h.le,h.ins k⟩
variable{q b8:List Int}
def a4Y (a:ag) (b:aq):a.le (rE e q a b).2:=zJ _ _ _ _
variable{e3:List aU}{h3:dq}
theorem a4Z {b:Int×List aU×ag} (a:p0 H e3 h3 b):H.le b.2.2:=by
 unfold p0 at a;split at a
 .rw[a];exact ag.le_refl
 split at a
 .rcases a with ⟨_,rfl⟩|⟨rows,_,_,⟨_,rfl⟩|⟨_,rfl⟩⟩
  .exact ag.le_refl
  .exact Hs (λH=>a4Y _ _) (λH=>G7) _ _ _
  .exact ag.le_refl
 .rw[a];exact ag.le_refl
theorem a5a:H.le (kU H e3 h3).2.2:=by grind[kU,ag.le_refl,Hs,a3o,Ga]
theorem a5b {a:Int×List aU×ag} (b:iw H e3 h3 a):H.le a.2.2:=by grind[iw,ag.le_refl,a4Z,a5a]
theorem Au {b:Except Int (List aU)} (c:cI e3=true) (d: ∀a,b= .ok a->cI a=true):cI (iW b e3).2=true:=by
 cases b with
 |error h=>exact c
 |ok a=>exact d a rfl
variable{e8:aU}
theorem Hu {a b:ag->Except Int aq×ag} (c:cI e3=true):cI (gF a b H e3 e8).2.1=true:=by grind[gF,Au,GR]
theorem a5c {c:Int×List aU×ag} (b:cI e3=true) (a:iw H e3 h3 c):cI c.2.1=true:=by
 unfold iw at a;split at a
 .rw[a];exact b
 split at a
 .rw[a];exact Au b λd a=>GV a
 split at a
 .rw[a];exact Au b λd a=>GQ b a
 split at a
 .unfold p0 at a;split at a
  .rw[a];exact b
  split at a
  .rcases a with ⟨_,rfl⟩|⟨rows,_,_,⟨_,rfl⟩|⟨_,rfl⟩⟩
   .exact b
   .exact Hu b
   .exact b
  .rw[a];exact b
 grind[kU,Hu]
def Av (c:cI e3=true): ∀a∈e3,a.Fit:=λa d=>by
 have b:=(oY c).1 a d;exact⟨by have:=b.n;omega,by have:=b.c;omega,λh k=>by have:=b.cs h k;omega⟩
theorem Hv {d:Int×List aU×ag} (a:iw H e3 h3 d) (x:ee e a8) (K:e<900) (p:dj h3.row) (u:vZ H e3 a8) (S:d.2.2.one=false):
  d.1=(hr a8 h3).1/\vZ d.2.2 d.2.1 (hr a8 h3).2:=by
 obtain⟨rfl,y⟩:=u;have u:vZ H (a8.map bb.bR) a8:=⟨rfl,y⟩;unfold iw at a;unfold hr;by_cases M:eV h3=false;simp_all;rw[if_neg M]at a|-;have f:eV h3=true:=by simp_all
 by_cases z:h3.kind=1
 .rw[if_pos z]at a|-;have N:=Hj f z;rw[add_eq x aaU N]at a;by_cases c2:ct a8 h3.table<a8.length
  .rw[if_pos c2]at a|-;rw[a];trivial
  rw[if_neg c2]at a|-;by_cases aE:7<a8.length
  .rw[if_pos aE]at a|-;rw[a];trivial
  rw[if_neg aE]at a|-;rw[a];refine⟨rfl,rfl,λb c=> ?_⟩;simp only[a6L,a6W]at c;rcases c with c|rfl|c;grind
  .trivial
  grind
 rw[if_neg z]at a|-;by_cases aE:h3.kind=2
 .rw[if_pos aE]at a;rw[Hl x aaU]at a;by_cases c2:ct a8 h3.table<a8.length
  .rw[if_pos c2]at a;rw[if_neg aaU,if_pos aE,a];exact⟨rfl,rfl,λb c=>y b (a9F c)⟩
  .rw[if_neg c2]at a;rw[if_pos aaU,a];trivial
 rw[if_neg aE]at a;by_cases c2:a8.length<=ct a8 h3.table
 .rw[if_pos c2];have g:(a8.map bb.bR).find? (λb=>decide (b.name=h3.table))=none:=by rw[H9,aaB c2];rfl
  rcases Ai f z aE with k|k
  .rw[if_pos k]at a;unfold p0 at a;simp_all
  .rw[if_neg (by rw[k];decide)]at a;unfold kU oZ at a;simp_all
 rw[if_neg c2,if_neg aE];have C:ct a8 h3.table<a8.length:=aaU;have w:=Ae C;have c:=x.ok _ w;have T:=vX C;have g:(a8.map bb.bR).find? (λb=>decide (b.name=h3.table))=some (a8.getD (ct a8 h3.table) default).bR:=by rw[H9,a7z,a6y C];rfl
 generalize a8.getD (ct a8 h3.table) default=b at*;have k4:=c.c;obtain⟨D,A⟩:=y b w;have k5:=c.df.cf;have V: ∀W:bb,ds d.2.2 W.bo/\ix d.2.2 W.bu->H.le d.2.2-> ∀v∈a8.set (ct a8 h3.table) W,ds d.2.2 v.bo/\ix d.2.2 v.bu:=λW E r v O=>by
  rcases a8J O with h|rfl
  .exact⟨(y v h).1.mono r,(y v h).2.mono r⟩
  .exact E
 rcases Ai f z aE with k|k
 .rw[if_pos k]at a;rw[if_neg (show¬h3.kind=4 by rw[k];decide)];unfold p0 at a;rw[g]at a
  dsimp only at a
  by_cases aM:h3.row.length=b.aD.length+1
  .rw[if_neg (show¬h3.row.length≠b.aD.length+1 from λh=>h aM)];rw[if_pos (show h3.row.length=b.bR.aD.length+1 from aM)]at a;have i:bN (b.aD.length+1) h3.row:=⟨aM,p⟩;rcases a with ⟨F,_⟩|⟨rows,Q,_,a⟩
   .exact absurd F (a3U (e:=b.aD.length+1) aaU aaU c.df.eW aaU D)
   have X:=a3W aaU aaU c.df.eW aaU D Q;have Y:rows= []↔ ¬b.rows.any (λG=>decide (c5 G=c5 h3.row))=true:=by
    rw[X,a9M];constructor
    .rintro h ⟨G,p,o⟩;exact h G (c.fh.mem_iff.2 p) ((GP aaU (c.row p)).2 (of_decide_eq_true o))
    .intro h Z j9 L;have B:=c.fh.mem_iff.1 j9;exact h ⟨Z,B,decide_eq_true ((GP aaU (c.row B)).1 L)⟩
   rcases a with ⟨o,a⟩|⟨o,a⟩
   .have I:=Y.1 o;rw[if_neg I];obtain⟨E,j,l⟩:=c.put K i λG p o=>I (a9M.2 ⟨G,p,decide_eq_true o⟩);have F:=a3p aaU aaU i c.df.eW aaU D j;rw[a]at S V|-;have L:=Ht (a:=b) x aaU E aaU rfl rfl (by rw[T];exact C) (c:=λH=>rE (b.aD.length+1) h3.row H (bm b.bo)) F (λm r k0=>a4e aaU aaU i c.go (A.mono r) l) (λm=>G7) S;obtain⟨n,P,q,s,t⟩:=L;rw[T]at P;exact⟨n,P,V _ ⟨s,t⟩ q⟩
   grind
  .rw[if_neg (show¬h3.row.length=b.bR.aD.length+1 from aM)]at a;grind
 .rw[if_neg (by rw[k];decide)]at a;rw[if_pos k];unfold kU oZ at a;rw[g]at a
  dsimp only at a
  by_cases aM:h3.row.length=b.aD.length+1
  .rw[if_neg (show¬h3.row.length≠b.aD.length+1 from λh=>h aM)];rw[if_pos (show h3.row.length=b.bR.aD.length+1 from aM)]at a
   dsimp only at a
   rw[if_pos rfl]at a;by_cases bx:h3.row∈b.rows
   .rw[if_pos bx];obtain⟨E,j,l⟩:=c.del bx;have F:=a3r aaU aaU c.df.eW aaU D j;rw[a]at S V|-;have L:=Ht (a:=b) x aaU E aaU rfl rfl (by rw[T];exact C) (c:=λH=>jt (b.aD.length+1) h3.row H (bm b.bo)) F (λm r k0=>a4j aaU aaU (c.row bx) c.go (A.mono r) l) (λm=>Ga) S;obtain⟨n,P,q,s,t⟩:=L;rw[T]at P;exact⟨n,P,V _ ⟨s,t⟩ q⟩
   .rw[if_neg bx];have k1:=a3q aaU aaU c.df.eW aaU D (c.none aM bx);have k2:d=(9,a8.map bb.bR,H):=by
     rw[a];unfold gF;show(match jt (b.aD.length+1) h3.row H (bm b.bo)with
      |(.error o,k3)=> _
      |(.ok k6,k3)=> _)= _
     rw[k1]
    rw[k2];trivial
  .rw[if_neg (show¬h3.row.length=b.bR.aD.length+1 from aM)]at a;simp_all
inductive w0:ag->List aU->List dq->Int×List aU×ag->Prop
 |nil (a:ag) (l:List aU):w0 a l [] (0,l,a)
 |stop {a:ag}{l:List aU}{d:dq}{cK:List dq}{res:Int×List aU×ag}:iw a l d res->res.1≠0->w0 a l (d::cK) res
 |step {a:ag}{l:List aU}{d:dq}{cK:List dq}{res b:Int×List aU×ag}:iw a l d res->res.1=0->w0 res.2.2 res.2.1 cK b->w0 a l (d::cK) b
def kW (a:dC) (b:List (List UInt8)):List (List UInt8):=match a with
 |none=>b
 |some ⟨c,a⟩=>iA c a b
def rM (a:dC):Nat:=match a with
 |none=>0
 |some ⟨b,a⟩=>jz b a
def Aw (a:dC) (b:List (List UInt8)):(kW a b).length<=b.length+rM a:=by
 cases a with
 |none=>simp[kW,rM]
 |some c=>exact Ap c.1 c.2 b
def Ax (h:1<=e) (k:e<=8) (b:dC) (c:List (List UInt8)) (o:gT e b) (d: ∀a∈c,a.length=32): ∀a∈kW b c,a.length=32:=by
 cases b with
 |none=>exact d
 |some a=>exact Ar h k a.1 a.2 c (GT.fQ o) d
def Hw (r:1<=e) (x:e<=8) (a:dC) (c h:R) (d k:U) (b:List (List UInt8)) (o:fe d a c) (p:kS d k b h) (y: ∀z∈b,z.length=32) (C:gT e a) (D:b.length+rM a<=100000000):
  AC Tryz.prog 16 [h,c] k λE F=>kS d F (kW a b) E:=by
 match a with
 |none=>obtain rfl:c= .v (.pointer none):=o;refine aK hm x7 ?_;exact⟨_,U.a6,p⟩
 |some ⟨G,a⟩=>exact a4X r x G a c h d k b o p y (GT.fQ C) D
def Ay (c d:List (List UInt8)) (h y:R) (k:U) (z:bJ k 32 h (c.map bz)) (C:bJ k 32 y (d.map bz)) (G: ∀b∈c,b.length=32) (L: ∀b∈d,b.length=32) (A:c.length<=1000000000):
  AC Tryz.prog 12 [h,y] k λf g=>g=k/\f= .v (.bool (decide (c=d))):=by
 have i:=z.len;have j:=C.len;rw[a6J]at i j;have D: ∀(r:List (List UInt8)) (h:R),bJ k 32 h (r.map bz)->(∀b∈r,b.length=32)-> ∀(a:Nat) (b:List UInt8),r[a]? =some b-> ∃o,cC 32 h (.v (.int .i64 (a:Int)))=some o/\cY true 32 k o=some (bz b):=λr h l m a b P=>by
  obtain⟨o,n,q⟩:=l.get a (bz b) (by simp[P]);have S:=m b (a6D P);have T:=q.ld k U.a6 true 32 aaU (by show 32<=(b.map ak).length;simp[S]);rw[show aL true 32 (bz b).cells=bz b by rw[aL,if_pos rfl,a6z (by show(b.map ak).length<=32;simp[S])];rfl]at T;exact⟨o,n,T⟩
 have s:=D c h z G;have t:=D d y C L;clear D z C;refine aK hm KT ?_;refine aH (λV=> ?_) λV=> ?_
 .rw[decide_eq_false λE=>V (by rw[E])]
 refine gL [0,1] (λa:Nat=> [(5,.v (.int .i64 (a:Int)))]) (λa=>a<=c.length/\c.take a=d.take a) (λa=>c.length - a) 0 ⟨a7b _,aaV⟩ aO ?_;rintro a ⟨B,F⟩ H;refine aa ?_;refine aH (λc2=> ?_) λc2=> ?_
 .have W:a<c.length:=aaU;have u:a<d.length:=aaU;have x:c[a]? =some c[a]:=a6y W;have p:d[a]? =some d[a]:=a6y u;generalize c[a]=e at*;generalize d[a]=v at*;obtain⟨o,I,K⟩:=s a e x;obtain⟨M,N,O⟩:=t a v p;have Q:=λw=>xN (I:=true) (b:=w) (G e (a6D x)) (L v (a6D p));refine aa ?_;refine aH (λaE=> ?_) λaE=> ?_
  .rw[decide_eq_false λE=>aE (by subst E;rw[x]at p;exact a6x p)]
  .exact⟨a+1,⟨W,by rw[a7C,a7C,F,x,p,aE]⟩,rfl,aaU⟩
 .obtain rfl:a=c.length:=aaU;rw[a6V]at F;rw[decide_eq_true (F.trans (a6z aaU))]
def lO (c:List bb) (a:List (List UInt8)):List (List UInt8):=c.foldl (λa b=>kW b.bu (fs b.bo a)) a
def mL (a:bb):Nat:=a.bo.size+rM a.bu
def a5d (d P:U) (S:Nat) (b:List bb) (m:ht d S b) (T:ee e b) (M:e<=1000000) (h:List (List UInt8)) (C:R) (V:kS d P h C) (n: ∀a∈h,a.length=32) (q:h.length+(b.map mL).sum<=100000000):
  AC Tryz.prog 13 [C,.ptr S 0] P λs D=>kS d D (lO b h) s:=by
 obtain⟨N,O,E,W⟩:=m;have Q:=W.len;have X:=T.dK;have Y:=U.ae (V.1 _ _ E);refine aK hm KV ?_;refine cg [1] (λa:Nat×List (List UInt8)×R=> [(5,.v (.int .i64 (a.1:Int))),(0,a.2.2)]) (λa D=>a.1<=b.length/\kS d D a.2.1 a.2.2/\(∀F∈a.2.1,F.length=32)/\a.2.1.length+((b.drop a.1).map mL).sum<=100000000/\lO (b.drop a.1) a.2.1=lO b h) (λa=>b.length - a.1) (0,h,C) ⟨⟨a7b _,V,n,q,rfl⟩,aO⟩ ?_;rintro⟨k,p,a3⟩ t ⟨u,r,G,f,x⟩ Z
 dsimp only at u r G f x|-
 have v:=U.ae (r.1 _ _ E);refine aa ?_;refine aH (λw=> ?_) λw=> ?_
 .have y:k<b.length:=aaU;obtain⟨c,z⟩: ∃c,b[k]? =some c:=⟨_,a6y y⟩;have g:b.drop k=c::b.drop (k+1):=by rw[a6Y y];congr 1;rw[a6y y]at z;exact a6x z
  obtain⟨_,j9,k0,k1,k2,k3,a,F,rfl,i,_,j,A⟩:=W.get z;have o:=T.ok c (a6D z);have k4:=o.c;have k5:=o.df.cf;rw[g,lO,a7j]at x;rw[g,a6Q,a7Q,mL]at f;have k6:=rK c.bo p;have k7:=Aw c.bu (fs c.bo p);have l:=rL aaU aaU c.bo p o.df.eW aaU G;have B:=Ax aaU aaU c.bu _ o.go l;have H:=U.ae (r.1 _ _ i);have k8:=j.cells;refine aa ?_;refine ah (vY aaU aaU c.bo a a3 d t p j r G o.df.eW aaU aaU) ?_;rintro a4 I L;have v:=U.ae (L.1 _ _ E);have H:=U.ae (L.1 _ _ i);refine aa ?_;refine ah (Hw aaU aaU c.bu F a4 d I _ A L l o.go aaU) ?_;rintro a5 k9 K;refine aa ?_;exact⟨(k+1,kW c.bu (fs c.bo p),a5),⟨y,K,B,by dsimp only;omega,x⟩,⟨rfl,rfl⟩,by dsimp only;omega⟩
 .obtain rfl:k=b.length:=aaU;rw[a8G,lO,a8S]at x;rw[<-x];exact⟨_,U.a6,r⟩
def eG (c:ag) (d:Nat):Nat->aq->List (List UInt8)->List (List UInt8)
 |0,_,a=>a
 |h+1,b,a=>if b=az then a else match dA c d b with
   |none=>dS a b.sum
   |some k=>k.kids.foldl (λa o=>eG c d h o a) (dS a b.sum)
inductive kX (a:ag) (d:Nat):aq->Prop
 |nil:kX a d az
 |node {k:aq}{n:bY} (h:dA a d k=some n) (aS:n.In d) (hk: ∀c∈n.kids,kX a d c):kX a d k
def lP (k:ag) (d:List (List UInt8)) (o:Nat):Prop:= ∀a b c,1<=a->a<=8->dA k a b=some c->c.In a->b.sum∈d->bQ b<o-> ∀h∈c.kids,h≠az->h.sum∈d
variable{e6:List (List UInt8)}
def lP.le {v:Nat} (a:lP H e6 e) (x:v<=e):lP H e6 v:=λb c d h k o p r y=>a b c d h k o p r aaU
variable{A:List UInt8}
def qg {a:List UInt8}:A∈dS e6 a↔A∈e6\/A=a:=by
 unfold dS;split
 .rename_i b;constructor
  .exact .inl
  .rintro(c|rfl);exact c;exact b
 .simp
def Hx {d:Type}{h:List (List UInt8)->d->List (List UInt8)}{b:List (List UInt8)}: ∀(c:List d),(∀a∈c,h b a=b)->c.foldl h b=b
 | [],_=>rfl
 |a::c,k=>by rw[a7j,k a aaV];exact Hx c λa o=>k a (by simp[o])
variable{w j3:aq}{b4:bY}
def qh (a:dA H e j3=some b4) (b:w∈b4.kids):bQ w<bQ j3:=by
 have d:=(FM a).1;have h:bQ w<=(b4.kids.map bQ).sum:=by obtain⟨k,o,c⟩:=a8V b;rw[c,a7x,a6Q,aao,a7Q];omega
 omega
def Hy {k:ag}{c:Nat} (x:1<=c) (y:c<=8) {b:List (List UInt8)}{z:Nat} (C:lP k b z): ∀(d:Nat) (a:aq),kX k c a->bQ a<d->bQ a<z->(a≠az->a.sum∈b)->eG k c d a b=b
 |0,_,_,S,_,_=>by omega
 |d+1,a,D,T,hw,hk=>by
  rw[eG];by_cases h:a=az
  .rw[if_pos h]
  rw[if_neg h];cases D with
  |nil=>exact absurd rfl h
  |node o E F=>
   rename_i G;rw[o];have hm:=hk h;have L:dS b a.sum=b:=by rw[dS,if_pos hm]
   simp only[L];exact Hx _ λp r=>by
    have:=qh o r;exact Hy x y C d p (F p r) aaU aaU λP=>C c a G x y o E hm hw p r P
def Hz (h:ag) (b:Nat) (k o:List (List UInt8)) (p:Nat):Prop:= ∀c∈o,c∈k\/ ∃a d,dA h b a=some d/\d.In b/\a.sum=c/\bQ a<p
def HA (o:ag):Prop:= ∀a b c d h k,1<=a->a<=8->1<=b->b<=8->dA o a c=some h->h.In a->dA o b d=some k->k.In b->c.sum=d.sum->c=d/\h=k
def HB (x:e<=8) (d:b4.In e):ny 8 (cG b4)=(b4,⟨[],0⟩):=by
 obtain⟨o,y,z⟩:=kz d.ok;have p:(UInt8.ofNat b4.rows.length).toNat=b4.rows.length:=by rw[a7A];omega
 have r:(UInt8.ofNat b4.kids.length).toNat=b4.kids.length:=by rw[a7A];omega
 unfold ny cG;simp only[ov,p];rw[sL (iL 8) gp (λb=>b.1.length=e/\dj b.1) (λb h c=>DG b 8 h aaU aaU c.2) b4.rows [] _ (λb c=>⟨o b c,d.rows b c⟩)];simp only[ov,r];have:=sL (hC 8) dW (λk=>k.In e) (λk h a=>DH k 8 aaU h ⟨a.sum,a.aT,a.aS,a.key,by have:=a.nz;omega,by have:=a.nA;omega,by have:=a.nB;omega,a.mv,a.live,a.mw,a.size⟩) b4.kids [] [] d.kids;rw[a7E]at this;rw[this];rfl
def Az (a:dA H e w=some b4):H.m w.sum=some (cG b4):=by
 unfold dA at a;split at a
 .cases a
 .rename_i d b;split at a
  .cases a
  .rename_i h hm;split at a
   .obtain rfl:=a6x a;unfold ou at hm;split at hm
    .rename_i c;obtain rfl:=a6x hm;rw[c.2.2];exact b
    .cases hm
   .cases a
def HC (h:ag):HA h:=λE F G L k o _ p _ r a x b y z=>by
 have c:=Az a;have C:=Az b;rw[z,C]at c;have d:=HB p x;have D:=HB r y;rw[<-a6x c,D]at d;obtain rfl:o=k:=(aau d).1;exact⟨(re a).eq.trans (re b).eq.symm,rfl⟩
structure HD (a:ag) (d:Nat) (z:Nat) (k:aq) (t:List (List UInt8)) (w:Nat):Prop where
 eq:gB a d oT z k t=(0,eG a d z k t)
 cl:lP a (eG a d z k t) w
 has:k≠az->k.sum∈eG a d z k t
 sub: ∀x∈t,x∈eG a d z k t
 nw:Hz a d t (eG a d z k t) (bQ k+1)
def HE {c:ag}{d o x:Nat} (ih: ∀r a z,kX c d r->bQ r<o->bQ r<z->lP c a z->HD c d o r a z): ∀(p:List aq) (a:List (List UInt8)),(∀b∈p,kX c d b/\bQ b<o/\bQ b<x)->lP c a x->
  gb (gB c d oT o) p a=(0,p.foldl (λa b=>eG c d o b a) a)/\lP c (p.foldl (λa b=>eG c d o b a) a) x/\(∀b∈p,b≠az->b.sum∈p.foldl (λa b=>eG c d o b a) a)/\(∀h∈a,h∈p.foldl (λa b=>eG c d o b a) a)/\Hz c d a (p.foldl (λa b=>eG c d o b a) a) x
 | [],a,_,C=>⟨rfl,C,(λb D=>by cases D),λh k=>k,λh k=> .inl k⟩
 |b::p,a,hk,C=>by
  obtain⟨G,L,P⟩:=hk b aaV;obtain⟨S,T,V,W,e⟩:=ih b a x G L P C;obtain⟨f,c2,g,E,i⟩:=HE ih p (eG c d o b a) (λb D=>hk b (by simp[D])) T;simp only[gb,a7j,S,if_true];refine⟨f,c2,λh k F=> ?_,λh k=>E h (W h k),λh k=> ?_⟩
  .rcases a6W.1 k with rfl|k
   .exact E _ (V F)
   .exact g h k F
  .rcases i h k with y|y
   .rcases e h y with y|⟨r,j,l,m,n,q⟩
    .exact .inl y
    .exact .inr ⟨r,j,l,m,n,aaU⟩
   .exact .inr y
def AA {r:ag} (f:HA r) {o:Nat} (S:1<=o) (T:o<=8): ∀(x:Nat) (b:aq) (d:List (List UInt8)) (P:Nat),kX r o b->bQ b<x->bQ b<P->lP r d P->HD r o x b d P
 |0,_,_,_,_,c,_,_=>by omega
 |x+1,b,d,P,t,A,hw,V=>by
  by_cases p:b=az
  .have h:eG r o (x+1) b d=d:=by rw[eG,if_pos p]
   exact⟨by rw[gB,if_pos p,h],by rw[h];exact V,λc=>absurd p c,λk a=>by rw[h];exact a,λk a=>by rw[h]at a;exact .inl a⟩
  by_cases hm:b.sum∈d
  .have h:=Hy S T V (x+1) b t A hw λ_=>hm;refine⟨?_,by rw[h];exact V,λ_=>by rw[h];exact hm,λk a=>by rw[h];exact a,λk a=>by rw[h]at a;exact .inl a⟩;rw[gB,if_neg p,h,oT,decide_eq_false (λc=>c hm)];simp[dS,hm]
  cases t with
  |nil=>exact absurd rfl p
  |node y i B=>
   rename_i W;have N:dS d b.sum=d++ [b.sum]:=by rw[dS,if_neg hm]
   have H:lP r (dS d b.sum) (bQ b):=λz C D E F G L g u k a e=>by
    rcases qg.1 g with c|c
    .exact qg.2 (.inl (V z C D E F G L c aaU k a e))
    .obtain⟨rfl,_⟩:=f z o C b D W E F S T G L y i c;omega
   obtain⟨I,c2,K,j,v⟩:=HE (x:=bQ b) (λb d P=>AA f S T x b d P) W.kids (dS d b.sum) (λk a=>⟨B k a,by have:=qh y a;omega,qh y a⟩) H;have h:eG r o (x+1) b d=W.kids.foldl (λd p=>eG r o x p d) (dS d b.sum):=by rw[eG,if_neg p,y]
   have M:=j _ (qg.2 (.inr rfl));refine⟨?_,?_,λ_=>by rw[h];exact M,λk a=>by rw[h];exact j k (qg.2 (.inl a)),?_⟩
   .rw[gB,if_neg p,h];simp only[oT,hm,not_false_eq_true,decide_true,if_true,y];exact I
   .rw[h];intro z C D E F G L g u k a e;rcases v _ g with c|⟨l,m,n,q,s,w⟩
    .rcases qg.1 c with c|c
     .exact j _ (qg.2 (.inl (V z C D E F G L c u k a e)))
     .obtain⟨_,rfl⟩:=f z o C b D W E F S T G L y i c;exact K k a e
    .obtain⟨rfl,_⟩:=f z o C l D m E F S T G L n q s.symm;exact c2 z C D E F G L g w k a e
   .rw[h];intro k a;rcases v k a with c|⟨l,m,n,q,s,w⟩
    .rcases qg.1 c with c|rfl
     .exact .inl c
     .exact .inr ⟨b,W,y,i,rfl,aaU⟩
    .exact .inr ⟨l,m,n,q,s,aaU⟩
def w1 {k:ag}{d:Nat} (a:1<=d) (b:d<=8): ∀(T:aC),T.c7 d->T.size<=1048576->ds k T->kX k d (bm T)
 | .nil,_,_,_=> .nil
 | .node C live r x,c,o,h=>by
  have y:=o;rw[aC.size]at y;have z:=(vF (I:=live) a b c.r (ez a b c.a aaU) (ez a b c.b aaU) aaU).1;refine .node (q9 a b c o h) z λD p=> ?_;simp only[ck,a6W,a7V,or_false]at p;rcases p with rfl|rfl
  .exact w1 a b r c.a aaU h.2.1
  .exact w1 a b x c.b aaU h.2.2
def AB {x:ag}{b:Nat} (c:1<=b) (d:b<=8): ∀(T:aC) (a:Nat) (h:List (List UInt8)),T.c7 b->T.size<=1048576->ds x T->bQ (bm T)<a->eG x b a (bm T) h=fs T h
 | _,0,_,_,_,_,D=>by omega
 | .nil,a+1,h,_,_,_,_=>by rw[eG,bm,if_pos rfl];rfl
 | .node E live y z,a+1,h,k,o,p,F=>by
  have C:=o;rw[aC.size]at C;have r:=q9 c d k o p;have G:=qh r (w:=bm y) (by simp[ck]);have L:=qh r (w:=bm z) (by simp[ck]);rw[eG,if_neg (vG c d k o),r,fs];simp only[ck,a7j,a8S];rw[AB c d y a _ k.a aaU p.2.1 aaU,AB c d z a _ k.b aaU p.2.2 aaU]
def tL {x:ag}{k:Nat} (d:1<=k) (h:k<=8): ∀(a:Nat) (b:a1.T a),dp k a b->fg x a b->kX x k (bK a b)
 |0,b,c,o=> .node (tz d h c o) (lC d h 0 b c).1.tj λy p=>by cases p
 |a+1,b,c,o=> .node (tz d h c o) (lC d h (a+1) b c).1.tj λy p=>by
  obtain⟨r,z,rfl⟩:=a6S.1 (show y∈(a1.kids b).map (bK a)from p);exact tL d h a r (c.kids r z) (o.2 r z)
def AD {C:ag}{p:Nat} (r:1<=p) (x:p<=8): ∀(a:Nat) (d:a1.T a) (h:Nat) (c:List (List UInt8)),dp p a d->fg C a d->bQ (bK a d)<h->eG C p h (bK a d) c=iA a d c
 | _,_,0,_,_,_,a=>by omega
 |0,d,h+1,c,k,z,F=>by
  rw[eG,if_neg (kL r x k).ne,tz r x k z];rfl
 |a+1,d,h+1,c,k,z,F=>by
  have D:=tz r x k z;rw[eG,if_neg (kL r x k).ne,D,iA];show((a1.kids d).map (bK a)).foldl _ _= _;rw[List.foldl_map];have G: ∀(o:List (a1.T a)) (c:List (List UInt8)),(∀b∈o,b∈a1.kids d)->o.foldl (λd b=>eG C p h (bK a b) d) c=o.foldl (λc b=>iA a b c) c:=λo=>by
   induction o with
   |nil=>intro c _;rfl
   |cons b o ih=>intro c E;have y:=E b aaV;have S:=qh D (w:=bK a b) (a6S.2 ⟨b,y,rfl⟩);rw[a7j,a7j,AD r x a b h c (k.kids b y) (z.2 b y) aaU];exact ih _ λL P=>E L (by simp[P])
  exact G _ _ λb y=>y
def qi (a:ag) (b:List (List UInt8)):Prop:= ∀c,lP a b c
def AE (a:1<=e) (b:e<=8) (c:kX H e w) (d:qi H e6):gU H e w e6=(0,eG H e (bQ w+1) w e6)/\qi H (eG H e (bQ w+1) w e6):=by refine⟨(AA (HC H) a b (bQ w+1) w e6 (bQ w+1) c aaU aaU (d _)).eq,λh=> ?_⟩;exact(AA (HC H) a b (bQ w+1) w e6 (h+bQ w+1) c aaU aaU (d _)).cl.le aaU
variable{a7:aC}
def HF (a:1<=e) (b:e<=8) (c:a7.c7 e) (d:a7.size<=1048576) (h:ds H a7) (k:qi H e6):gU H e (bm a7) e6=(0,fs a7 e6)/\qi H (fs a7 e6):=by have o:=AE a b (w1 a b a7 c d h) k;rwa[AB a b a7 _ e6 c d h aaU]at o
variable{b7:dC}
def HG (c:1<=e) (d:e<=8) (a:gT e b7) (b:ix H b7) (h:qi H e6):gU H e (gV b7) e6=(0,kW b7 e6)/\qi H (kW b7 e6):=by
 match b7,a,b with
 |none,_,_=>exact⟨by rw[gU,gV,gB,if_pos rfl];rfl,h⟩
 |some ⟨k,o⟩,a,b=>have p:=AE c d (tL c d k o (GT.fQ a) b) h;rwa[AD c d k o _ e6 (GT.fQ a) b aaU]at p
def a5e (c:1<=e) (d:e<=8) (a:gT e b7) (b:ix H b7):kX H e (gV b7):=by
 match b7,a,b with
 |none,_,_=>exact .nil
 |some ⟨h,k⟩,a,b=>exact tL c d h k (GT.fQ a) b
def w2 {b:ag}{p:Nat}: ∀(h:Nat) (c:aq) (d:List (List UInt8)),kX b p c->bQ c<h->gB b p (mI b) h c d=(0,d)
 |0,_,_,_,r=>by omega
 |h+1,c,d,y,F=>by
  rw[gB];by_cases a:c=az
  .rw[if_pos a]
  rw[if_neg a];cases y with
  |nil=>exact absurd rfl a
  |node x G hk=>
   rename_i z;have hm:(b.m c.sum).isSome=true:=by rw[Az x];rfl
   simp only[mI,hm,if_true,x];have C: ∀k:List aq,(∀a∈k,a∈z.kids)->gb (gB b p (mI b) h) k d=(0,d):=λk=>by
    induction k with
    |nil=>intro _;rfl
    |cons a k ih=>intro r;have o:=r a aaV;rw[gb,w2 h a d (hk a o) (by have:=qh x o;omega),if_pos rfl];exact ih λD E=>r D (by simp[E])
   exact C _ λa o=>o
def HH {c:ag}{p:Nat} (x:p<=1000): ∀(d:List bb) (b:List (List UInt8)),(∀a∈d,ep p a/\ds c a.bo/\ix c a.bu)->qi c b->gd gU c (d.map bb.bR) b=(0,lO d b)
 | [],b,_,_=>rfl
 |a::d,b,r,y=>by
  obtain⟨h,z,C⟩:=r a aaV;have L:=h.c;have P:=h.df.cf;obtain⟨k,D⟩:=HF (e:=a.aD.length+1) aaU aaU h.df.eW aaU z y;obtain⟨o,c2⟩:=HG (e:=a.aD.length+1) aaU aaU h.go C D;have k:gU c ((bb.bR a).aD.length+1) (bb.bR a).bo b=(0,fs a.bo b):=k;have o:gU c ((bb.bR a).aD.length+1) (bb.bR a).bu (fs a.bo b)=(0,kW a.bu (fs a.bo b)):=o;have E: ¬8<(bb.bR a).aD.length+1:=by show¬8<a.aD.length+1;omega
  rw[a6Q,gd,if_neg E];simp only[gb,k,o,if_true];exact HH x d _ (λF G=>r F (by simp[G])) c2
def HI {c:ag}{k:Nat} (p:k<=1000): ∀(d:List bb) (b:List (List UInt8)),(∀a∈d,ep k a/\ds c a.bo/\ix c a.bu)->gd hL c (d.map bb.bR) b=(0,b)
 | [],b,_=>rfl
 |a::d,b,o=>by
  obtain⟨h,r,x⟩:=o a aaV;have F:=h.c;have G:=h.df.cf;have y:hL c ((bb.bR a).aD.length+1) (bb.bR a).bo b=(0,b):=w2 _ _ b (w1 (d:=a.aD.length+1) aaU aaU a.bo h.df.eW aaU r) aaU;have z:hL c ((bb.bR a).aD.length+1) (bb.bR a).bu b=(0,b):=w2 _ _ b (a5e (e:=a.aD.length+1) aaU aaU h.go x) aaU;have C: ¬8<(bb.bR a).aD.length+1:=by show¬8<a.aD.length+1;omega
  rw[a6Q,gd,if_neg C];simp only[gb,y,z,if_true];exact HI p d _ λD E=>o D (by simp[E])
inductive gG where
 |row (r:List Int)
 |tree (h:Nat) (t:a1.T h)
def gG.it:gG->pR
 | .row a=> .row a
 | .tree b c=> .gw (bK b c)
def gG.all:gG->List (List Int)
 | .row a=> [a]
 | .tree b c=>a1.ba b c
def gG.ok (d:ag) (a:Nat):gG->Prop
 | .row h=>bN a h
 | .tree b c=>dp a b c/\fg d b c
def gG.a5f:gG->Nat
 | .row _=>0
 | .tree a b=>2*(a1.ba a b).length - 1
def w3 (a:List gG):List (List Int):=a.flatMap gG.all
def w4 (a:List gG):Nat:=(a.map gG.a5f).sum
def te.swap (a:te):te:=⟨a.B,a.A,a.tf,a.gone,a.nG⟩
inductive tM (d:Nat) (k o:List gG) (r c:List (List Int)) (n:Int):List gG->List gG->List (List Int)->List (List Int)->Int->Prop where
 |alike (h:Nat) (t:a1.T h) (y:Nat) (z:a1.T y) (a b:List gG):k= .tree h t::a->o= .tree y z::b->(bK h t).sum=(bK y z).sum->tM d k o r c n a b r c n
 |opened (a b:List gG) (C:Int):w3 a=w3 k->w3 b=w3 o->C+w4 a+w4 b<=n+w4 k+w4 o->tM d k o r c n a b r c C
 |gone (p:List Int) (a:List gG):k= .row p::a->(o= []\/ ∃x b,o= .row x::b/\bC p x=true)->tM d k o r c n a o (r++ [p]) c n
 |tf (x:List Int) (b:List gG):o= .row x::b->(k= []\/ ∃p a,k= .row p::a/\bC x p=true)->tM d k o r c n k b r (c++ [x]) n
 |both (p x:List Int) (a b:List gG):k= .row p::a->o= .row x::b->bC p x=false->bC x p=false->tM d k o r c n a b r c n
def a5g (b:1<=e) (c:e<=8) (a:bN e q) (d:bN e b8) (h:bC q b8=true):bC b8 q=false:=by
 cases k:bC b8 q with
 |false=>rfl
 |true=>have:=(ga b c).trans q b8 q a d a h k;rw[pS]at this;cases this
def dk (a:List Int) (b:Nat):List Int:=a.take b++List.replicate (b - a.length) 0
abbrev a5h:=UInt8×List Int
def a6k (a:a5h) (b:R):Prop:= ∃c,b= .agg [ak a.1,.J (ad a.2) c]
structure a6l (d:Nat) (o b:U) (l h p:Nat) (r:ag) (n:Nat) (c:ag) (k:aq) (t:dC) (a:R):Prop where
 ext:Ext l h o b
 fO:bq b l h c
 a6m: ∃gN eE x,b p=some (.cells (ab k gN eE x))
 sum:k.sum.length=32
 sh:k.cv
 tA:fe b t a
 go:gT d t
 dK:(ec t).length<=n
 le:r.le c
 rep:c.one=false->k=gV t/\ix c t
def a5i (v:1<=e) (w:e<=8) (b:List (List Int)) (o:List R) (p:Own) (z:U) (C:aB isRow b o) (A:a1.hg bC b) (P: ∀r∈b,bN e r) (Y:b.length<=12):
  AC Tryz.prog 143 [.J o p,.v (.int .i64 0),.v (.int .i64 b.length),.bG 47 [] []] z λ_ d=>d=z:=by
 refine bc hm P0 aaV ?_;have Z:=C.len;refine bT ?_;refine cm (λc d=> ∃h:Nat,1<=h/\h<=13/\d=z/\c 0= .J o p/\c 1= .v (.int .i64 0)/\c 2= .v (.int .i64 b.length)/\c 3= .bG 47 [] []/\c 8= .v (.int .i64 (h:Int)))
  (λc _=>match c 8 with| .v (.int _ B)=>13 - B.toNat| _=>0) ⟨1,aaU,aaU,rfl,?_⟩ ?_
 .exact kv
 rintro c H ⟨h,j9,k0,rfl,D,E,F,G,x⟩;by_cases S:(h:Int)<(b.length:Int)
 .obtain⟨a,rfl⟩: ∃a,h=a+1:=⟨h - 1,aaU⟩;have T:b[a+1]? =some b[a+1]:=a6y aaU;have V:b[a]? =some b[a]:=a6y aaU;have y:=a7Y.1 A a (a+1) aaU aaU aaU;have W:=P _ (a6Z (l:=b) (n:=a) aaU);have f:=P _ (a6Z (l:=b) (n:=a+1) aaU);generalize b[a+1]'aaU=r at T y f;generalize b[a]'aaU=L at V y W;obtain⟨k1,aK,g,rfl⟩:=C.get T;obtain⟨k2,I,i,rfl⟩:=C.get V;have K:cC 1 (.J o p) (.v (.int .i64 ((a+1:Nat):Int)))=some (.bU [.J (ad r) g]):=by rw[gj aaU,a6X,aK];exact iE rfl
  have M:cC 1 (.J o p) (.v (.int .i64 (a:Int)))=some (.bU [.J (ad L) i]):=by rw[gj aaU,a6X,I];exact iE rfl
  have N: ∀d j l,cY false 1 d (.bU [.J (ad j) l])=some (.J (ad j) l):=λ_ _ _=>rfl;have O:((a+1:Nat):Int) - 1=(a:Int):=aaU;have Q:(0:Int)<((a+1:Nat):Int):=aaU;have X:kC r L=1:=by unfold kC;rw[a5g v w W f y,if_neg aaY,if_pos y]
  refine aj (bx @D @E @F @G @x @S) ?_;refine cm (λk d=>d=H/\k 0= .J o p/\k 1= .v (.int .i64 0)/\k 2= .v (.int .i64 b.length)/\k 3= .bG 47 [] []/\k 8= .v (.int .i64 ((a+1:Nat):Int))/\k 9= .v (.int .i64 ((a+1:Nat):Int))) (λ_ _=>0) ⟨rfl,?_⟩ ?_
  .exact cf (bh @D @E @F @G @x)
  rintro k k3 ⟨rfl,m,n,q,s,t,u⟩;refine aj (fA @m @n @q @s @t @u @Q @K @N @O @M) ?_;refine eL aaZ (yb r L g i _) ?_;rintro _ k4 ⟨rfl,rfl⟩;rw[X];refine aj (bx @m @n @q @s @t @u) ?_;exact⟨⟨a+1+1,aaU,aaU,rfl⟩,by simp only[x];omega⟩
 .refine aj (bx @D @E @F @G @x @S) ?_;exact⟨_,U.a6,rfl⟩
def a5j (x:1<=e) (y:e<=8) (a:List (List Int)) (d:List R) (h:Own) (k:U) (o:aB isRow a d) (z:a1.hg bC a) (C: ∀D∈a,bN e D) (E:a.length<=12):
  AC Tryz.prog 46 [.J d h,.bG 47 [] []] k λ_ b=>b=k:=by
 refine bc hm LU aaV ?_;have p:=o.len;refine aj @p ?_;refine ah (YO a.length aaU k) ?_;rintro _ r ⟨rfl,rfl⟩;refine aj @p ?_;refine ah (bc (t:=λ_ b=>b=r) hm Nj aaV ?_) ?_
 .refine bT ?_;refine cm (λc b=>b=r/\c 0= .J d h/\c 1= .v (.int .i64 0)/\c 2= .v (.int .i64 a.length)/\c 4= .bG 47 [] []) (λ_ _=>0) ⟨rfl,?_⟩ ?_
  .exact kv
  rintro c F ⟨rfl,G,L,P,S⟩;have T:(a.length:Int) - 0<=12:=aaU;refine aj (bh @G @L @P @S @T) ?_;refine ah (a5i x y a d h F o z C E) ?_;rintro V W rfl;refine bT ?_;exact⟨_,U.a6,rfl⟩
 .rintro V W rfl;refine bT ?_;exact⟨_,U.a6,rfl⟩
def rN (b:Nat) (c:ag) (d:List (List Int)):Except Int aq×ag:=
 match dx cU b c (a1.chunks d) []with
 |(.error h,a)=>(.error h,a)
 |(.ok bF,a)=>hi b (bF.length+1) a bF
def a5k (S:U) (o f:Nat) (D:ag) (t:bq S o f D) (b:Nat) (u:1<=b) (v:b<=8) (a:List (List Int)) (p:List R) (w:Own) (E:aB isRow a p) (k2:a1.hg bC a) (A: ∀k∈a,bN b k) (a13:a.length<=12):
  AC Tryz.prog 26 [.ptr o 0,.J p w,.v (.int .i64 (b:Int))] S λB T=>bq T o f (rN b D a).2/\Ext o f S T/\gR (rN b D a).1 B:=by
 refine bc hm Lf aaV ?_;have a14:=E.len;have V: ∀k3,(R.agg k3).cells=k3:=λ_=>rfl;have k4:=(aP (N:= .nil) (e5:= .nil) (h6:= .nil) bj).len;have a15:=(aP (N:= .nil) (e5:= .nil) (h6:= .nil) bj).t37;have a16:putAt (ab az .nil .nil .nil) 0 (ab az .nil .nil .nil)=ab az .nil .nil .nil:=cy bj bj;have k5: ∀d h k:R,putAt [d,h] 0 [k]= [k,h]:=λ_ _ _=>rfl;have k6: ∀d h k:R,putAt [d,h] 1 [k]= [d,k]:=λ_ _ _=>rfl;have k7: ∀d h:R,[d,h].length=2:=λ_ _=>rfl;have k8: ∀d h k9 W:R,putAt [d,h] 0 [k9,W]= [k9,W]:=λ_ _ _ _=>rfl;have H: ∀d h:R,List.take 2 [d,h]= [d,h]:=λ_ _=>rfl;have I: ∀d h,aL true 2 [d,h]= .agg [d,h]:=λ_ _=>rfl;have a90: ∀l0:Nat,(R.ptr l0 0).cells= [.ptr l0 0]:=λ_=>rfl;refine aj (c2 @V @ch) ?_;refine aN λj l=> ?_;have e:=t.cA l;obtain⟨g,K⟩: ∃g:U,g=S.set j (.cells (ab az .nil .nil .nil)):=⟨_,rfl⟩;have a18:S.sub g:=by rw[K];exact U.af U.a6 l
 have bx:g j=some (.cells (ab az .nil .nil .nil)):=by rw[K,U.ai]
 refine aj (c2 @V @ch) ?_;rw[<-K];refine ah (yg b a p (.J p w) g E (bJ.J (E.cells λ_ _=>isRow.cells)) aaU) ?_;rintro _ _ ⟨rfl,rfl⟩;have a19:oE (b:Int) a=true:=by unfold oE;simp only[a6B,decide_eq_true_eq,a6P];exact⟨⟨aaU,aaU⟩,λk a27=>by rw[(A k a27).len]⟩
 rw[a19];refine aj @a7o ?_;refine ah (yo a p w _ E aaU) ?_;rintro _ M ⟨i,l1,rfl⟩;refine bT ?_;refine ah (a5j u v a p i M E k2 A a13) ?_;rintro _ M rfl;refine bT ?_;refine cm (λF T=> ∃L:Nat,1<=L/\L<=13/\T=M/\F 0= .ptr o 0/\F 2= .v (.int .i64 (b:Int))/\F 6= .ptr j 0/\F 8= .J p i/\F 9= .v (.int .i64 (L:Int)))
  (λF _=>match F 9 with| .v (.int _ a29)=>13 - a29.toNat| _=>0) ⟨1,aaU,aaU,rfl,?_⟩ ?_
 .exact kv
 rintro F N ⟨L,a92,a94,rfl,r,x,y,z,C⟩;by_cases l2:(L:Int)<(p.length:Int)
 .obtain⟨c,rfl⟩: ∃c,L=c+1:=⟨L - 1,aaU⟩;have m:a[c+1]? =some a[c+1]:=a6y aaU;have l3:a[c]? =some a[c]:=a6y aaU;have n:=a7Y.1 k2 c (c+1) aaU aaU aaU;have a30:=(A _ (a6Z (l:=a) (n:=c+1) aaU)).len;generalize a[c+1]'aaU=k at m n a30;generalize a[c]'aaU=O at l3 n;obtain⟨a95,aK,l4,rfl⟩:=E.get m;obtain⟨a96,a34,l5,rfl⟩:=E.get l3;have a36:cC 1 (.J p i) (.v (.int .i64 ((c+1:Nat):Int)))=some (.bU [.J (ad k) l4]):=by rw[gj aaU,a6X,aK];exact iE rfl
  have a38:cC 1 (.J p i) (.v (.int .i64 (c:Int)))=some (.bU [.J (ad O) l5]):=by rw[gj aaU,a6X,a34];exact iE rfl
  have a42: ∀T l6 l7,cY false 1 T (.bU [.J (ad l6) l7])=some (.J (ad l6) l7):=λ_ _ _=>rfl;have a43:((c+1:Nat):Int) - 1=(c:Int):=aaU;have a47: ¬k=O:=by rintro rfl;rw[pS]at n;cases n
  refine aj (cd @r @x @y @z @C @l2 @a36 @a42 @a43 @a38) ?_;refine ah (kA k O l4 l5 N aaU) ?_;rintro _ l8 ⟨rfl,rfl⟩;simp -dsimp -implicitDefEqProofs (disch:=first|omega|assumption|(simp only[bd,Nat.reduceAdd];try omega)) only[go_sem,simprocAttr,-List.reduceReplicate,r,x,y,z,C,a47];exact⟨⟨c+1+1,aaU,aaU,rfl⟩,aaU⟩
 .have l9:=l1.sub _ _ bx;refine aj (fA @r @x @y @z @C @l2 @V @k5 @k6 @k7 @k8) ?_;refine aN λq s=> ?_;have a97:j≠q:=by rintro rfl;rw[l9]at s;cases s
  obtain⟨P,Q⟩: ∃P:U,P=N.set q (.cells [.ptr o 0,.v (.int .i64 (b:Int))]):=⟨_,rfl⟩;have n0:N.sub P:=by rw[Q];exact U.af U.a6 s
  have n1:P q=some (.cells [.ptr o 0,.v (.int .i64 (b:Int))]):=by rw[Q,U.ai]
  have a48:=n0 _ _ l9;have n2:=U.au a18 l1.sub;have a52:S q=none:=U.bI n2 s;have n3:=t.cA a52;refine aj (gk @r @x @y @z @C @V @k5 @k6 @k7 @k8 @U.set_set @a14) ?_;rw[<-Q];have n4:(R.agg (List.take 2 [R.ptr o 0,.v (.int .i64 (b:Int))]))=dJ o b:=rfl;refine ah (uX a.length aaU P) ?_;rintro _ P ⟨rfl,rfl⟩;refine aj (cN @r @x @y @z @C (U.ae n1) @H @I @n4) ?_;have n5:a1.bS a.length<=100000:=by unfold a1.bS;omega
  refine ah (Es a p i (a1.bS a.length) P E aaU n5) ?_;rintro _ a56 ⟨X,gs,a57,rfl,a61⟩;have n9:=X _ _ n1;refine aj (cN @r @x @y @z @C (U.ae n9) @H @I @n4) ?_;have Y:=mB (g:=a1.bS a.length) (l:=a);have a00:=U.au n2 (U.au n0 X);refine ah (ZS a56 o f D (t.mono a00) _ gs a57 b u v a61 (λa62 m=>by have:=Y.2 a62 m;omega) (by rw[Y.1];exact n5)) ?_;rintro B l8 ⟨a01,Z,a02⟩;have a63:rN b D a=match dx cU b D (a1.ew (a1.bS a.length) a) []with
   |(.error W,G)=>(.error W,G)
   |(.ok bF,G)=>hi b (bF.length+1) G bF:=rfl
  rw[a63];have a65:=λG a68 a69=>pO (c:=cU) (d:=b) (gs:=a1.ew (a1.bS a.length) a) (S:=D) (S':=G) (acc:= []) (ks:=a68) a69;have a03:=(Ext.of a00).trans Z;have a04:=Z _ _ e.1 e.2 (X _ _ a48);have a71:=Z _ _ n3.1 n3.2 n9;generalize dx cU b D (a1.ew (a1.bS a.length) a) []=a73 at*;obtain⟨res,G⟩:=a73;cases res with
  |error W=>obtain⟨a05,rfl⟩:=a02;refine aj (gk @r @x @y @z @C @a05 @ch @V (U.aI a04) @k4 @a15 @a16) ?_;exact⟨_,U.a6,a01.set e,a03.set l,a05,rfl⟩
  |ok bF=>obtain⟨a74,a81,a83,rfl⟩:=a02;have a06:=a65 G bF rfl;rw[Y.1]at a06;simp only[a6G]at a06;refine aj (bt @r @x @y @z @C (U.ae a71) @H @I) ?_;refine ah (Ex l8 o f G a01 bF a74 a81 b u v a83 aaU) ?_;rintro B a98 ⟨a84,a07,a08⟩;have a86:=a07 _ _ e.1 e.2 a04;obtain⟨a09,j9,k0,k1,W,a10,rfl⟩:=a08.shape;have a11:=aP (N:=j9) (e5:=k0) (h6:=k1) a10;have a88:=a11.len;have a89:putAt (ab az .nil .nil .nil) 0 (ab a09 j9 k0 k1)=ab a09 j9 k0 k1:=cy bj a10;refine aj (fA @r @x @y @z @C @V (U.aI a86) @a89 @a88 @k4 a11.t37) ?_;exact⟨_,U.a6,a84.set e,(a03.trans a07).set l,a08⟩
variable{b1:Int}
def a5l (c:b1=1\/b1=2\/b1=3\/b1=4):bN 1 [b1]:=⟨rfl,λa b=>by
 obtain rfl:a=b1:=by simpa using b
 omega⟩
variable{O:List (List Int)}
def a5m (h:1<=e) (k:e<=8) (c:ag) (d:GT e 0 (a1.leaf O)):rN e c O=(.ok (bK 0 (a1.leaf O)),fc c (cG (cU O))):=by obtain⟨a,b,_⟩:=d.wf;rw[a1.hF]at a b;have o:=(vg h k a b d.ok).oI;unfold rN;rw[a1.oC a b,dx,q6 o];simp only[dx,a6T];rw[hi];rfl
def a5n (a:H.m (fZ (cG (cU O)))=some (cG (cU O))):fg H 0 (a1.leaf O):=a
def p3:List (List Int):= [[1],[2]]
def qj:GT 1 0 (a1.leaf p3):=by
 refine⟨⟨aaY,aaY,trivial,λb=>by omega⟩,?_,?_,aaY⟩
 .rw[a1.jn];unfold a1.hg;decide+kernel
 .rw[a1.jn];intro c a;simp only[p3,a6W,a7V,or_false]at a;rcases a with rfl|rfl<;>exact a5l aaU
def eO:aq:=bK 0 (a1.leaf p3)
def qk:ag:=fc ag.new (cG (cU p3))
def a5o:rN 1 ag.new p3=(.ok eO,qk):=a5m aaU aaU _ qj
def AF:fg qk 0 (a1.leaf p3):=a5n (by unfold qk fc;simp[ag.new])
def HJ:iT 1 (a1.ba 0 (a1.leaf p3)).length eO:=kL aaU aaU qj.fQ
def a5p:gU qk 1 eO []=(0,[eO.sum]):=by have a:=(AE aaU aaU (tL aaU aaU 0 _ qj.fQ AF) (e6:= []) λ_ _ _ _ _ _ _ _ a=>by cases a).1;rw[AD aaU aaU 0 _ _ [] qj.fQ AF aaU]at a;exact a
def a5q:hL qk 1 eO []=(0,[]):=w2 _ _ _ (tL aaU aaU 0 _ qj.fQ AF) aaU
def a5r:hL ag.new 1 eO []=(0,[eO.sum]):=by have:(ag.new.m eO.sum).isSome=false:=rfl;rw[hL,gB,if_neg HJ.ne];simp[mI,this,dS]
def a5s (z:U):AC Tryz.prog 6 [] z λT _=>T= .v (.bool true):=by
 have M:=ch;have N:=(aP (N:= .nil) (e5:= .nil) (h6:= .nil) bj).all;have O:= @U.set_set;refine aK hm KH ?_;refine ah (xX z) ?_;rintro _ Q ⟨h,k,X,Y,rfl,V,Z⟩;refine aa ?_;refine dF U.a6 (by simp[aW,R.cells]) λW j9 e=> ?_;refine aa ?_;refine dF U.a6 (by simp[aW,R.cells]) λf k0 g=> ?_;refine aa ?_;refine dF U.a6 (by simp[aW,R.cells]) λi eP j=> ?_;have l:=U.au e.sub (U.au g.sub j.sub);refine aa ?_;refine ah (a5k eP h k ag.new (V.mono l) 1 aaU aaU p3 [.J (ad [1]) W,.J (ad [2]) f] i ⟨⟨_,rfl⟩,⟨_,rfl⟩,trivial⟩ qj.dX qj.ok aaY) ?_;rw[a5o];rintro _ C ⟨D,k1,a,o,b,c,d,rfl⟩;have k2:=(aP (N:=b) (e5:=c) (h6:=d) a).all;have k3:putAt (ab az .nil .nil .nil) 0 (ab eO b c d)=ab eO b c d:=cy bj a;have m:eO.size=2:=HJ.size;have p:bQ eO<=100000000:=by rw[bQ,m];decide
 have r:eO≠az->1<=eO.size:=λ_=>by omega
 refine aa ?_;refine bp λn q=> ?_;have E:=U.af (X:= .cells (ab eO b c d)) (U.a6 (f:=C)) q;have c2:=U.ai C n (.cells (ab eO b c d));refine ah (zo _ h k qk (D.mono E) eO b c d a o r p 1 aaU aaU) ?_;rw[a5p];rintro _ s ⟨F,G,_⟩;obtain⟨k4,rfl⟩:=G rfl;clear G;have aE:=F _ _ c2;have x:=U.ae aE;refine aa ?_;refine ah (xX s) ?_;rintro _ t ⟨u,v,_,_,rfl,w,L⟩;have x:=U.ae (L _ _ aE);refine aa ?_;refine ah (FQ t u v ag.new w eO b c d a o r p 1 aaU aaU) ?_;rw[a5r];rintro _ A ⟨B,P,_⟩;obtain⟨k5,rfl⟩:=P rfl;clear P;have y:=U.au L B;have x:=U.ae (y _ _ aE);refine aa ?_;refine ah (FQ A h k qk (D.mono (U.au E (U.au F y))) eO b c d a o r p 1 aaU aaU) ?_;rw[a5q];rintro _ k6 ⟨H,S,_⟩;obtain⟨k7,rfl⟩:=S rfl;clear S;have x:=U.ae (H _ _ (y _ _ aE));have k8:=λI=>xN (I:=false) (b:=I) a a;have k9:R.agg (eO.sum.map ak)=bz eO.sum:=rfl;have K:(eO.sum.map ak).length=32:=by simp[a]
 have l0:eO.sum.take 32=eO.sum:=a6z aaU;have l1:(bz eO.sum).cells.length=32:=K;have l2:(bz eO.sum).cells=eO.sum.map ak:=rfl;refine aa ?_;exact⟨_,U.a6⟩
def a5t (p:ee e a8) (r:e<=1000): ∀o∈a8.map bb.bR,o.In:=λo x=>by
 obtain⟨h,y,rfl⟩:=a6S.1 x;have c:=p.ok h y;have C:=c.c;have D:=c.df.cf;have a:=(ez aaU aaU c.df.eW aaU).kK aaU;refine⟨GA (c.bR r),?_,?_⟩
 .show(bm h.bo).In 8;have:=a.nz;have:=a.nA;have:=a.nB;exact⟨a.sum,a.aT,a.aS,a.key,aaU,aaU,aaU,a.mv,a.live,a.mw,a.size⟩
 .show(gV h.bu).In 8;rcases H6 aaU aaU c.go with ⟨_,k⟩|⟨_,k⟩
  .rw[k];have d:dj []:=λE z=>(by cases z);exact⟨bj,d,d,d,a7b _,a7b _,a7b _,aaY,aaY,aaY,aaY⟩
  .have d:=c.nV.length_eq;have F:=c.dK;have b:=k.kK aaU;have:=b.nz;have:=b.nA;have:=b.nB;exact⟨b.sum,b.aT,b.aS,b.key,aaU,aaU,aaU,b.mv,b.live,b.mw,b.size⟩
def w5 (d h:U):Prop:= ∀b a c,d b=some (.cells (a::c))->((∃k o,a= .J k o)\/ ∃p,a=bn p)->h b=some (.cells (a::c))
def dL.p4 {b c:U} (a:w5 b c): ∀ {d:aC}{h:R},dL b d h->dL c d h
 | .nil,_,k=>k
 | .node _ _ _ _,_,⟨o,p,r,x,h1,y,z,C⟩=>⟨o,p,r,x,h1,a _ _ _ y (.inl ⟨_,_,rfl⟩),z.p4 a,C.p4 a⟩
def hs.p4 {b c:U} (a:w5 b c) {d:bb}{h:R} (o:hs b d h):hs c d h:=by obtain⟨p,r,x,y,k,z,C,D,E,F,G⟩:=o;exact⟨p,r,x,y,k,z,C,a _ _ _ D (.inr ⟨_,rfl⟩),E,F.p4 a,G.Ha λP S T k V L=>a _ _ _ L (.inl ⟨_,_,rfl⟩)⟩
def ht.p4 {b c:U} (d:w5 b c) {h:Nat}{k:List bb} (a:ht b h k):ht c h k:=by obtain⟨o,p,r,x⟩:=a;exact⟨o,p,d _ _ _ r (.inl ⟨_,_,rfl⟩),x.mono λy z a=>a.p4 d⟩
variable{f s e0:U}
theorem cB.rs (c:dE f e i v H e3) (h:cB e i v f s):w5 f s:=λk r x a d=>by
 obtain⟨y,z,o,_⟩:=c.x;obtain⟨C,D,p⟩:=c.fO.at_;obtain⟨E,⟨F,G,L,_⟩,_⟩:=c.fO.mp;refine h k _ ?_ ?_ ?_ a
 .rintro rfl;rw[o]at a;obtain⟨rfl,_⟩:=aa4 (bs.cells.inj (a6x a));rcases d with ⟨_,_,b⟩|⟨_,b⟩<;>cases b
 .rintro rfl;rw[p]at a;obtain⟨rfl,_⟩:=aa4 (bs.cells.inj (a6x a));rcases d with ⟨_,_,b⟩|⟨_,b⟩<;>cases b
 grind
def dE.a5u (a:dE f i v M H e3) (o:ht f e a8) (d:eA e f s):dE s i v M H e3:=by
 obtain⟨p,r,h,x⟩:=a.x;obtain⟨D,E,b⟩:=a.fO.at_;obtain⟨F,⟨G,L,c,P⟩,S⟩:=a.fO.mp;obtain⟨T,V,k,_⟩:=o;have y:i≠e:=by rintro rfl;rw[k]at h;cases h
 have z:v≠e:=by rintro rfl;rw[k]at b;cases b
 have C:M≠e:=by rintro rfl;rw[k]at c;cases c
 exact⟨a.fO.other (by rw[b];exact d _ _ z b) (by rw[c];exact d _ _ C c),⟨p,r,d _ _ y h,x⟩,a.nT,a.nU⟩
structure ql (b:U) (c gA d W:Nat) (a:ag) (l:List aU) (cK:List bb) (n:Nat):Prop where
 st:dE b c gA d a l
 cat:cI l=true
 rs:ht b W cK
 inv:ee n cK
 rep:a.one=false->vZ a l cK
def ql.sub {b c:U}{d h k o p:Nat}{r:ag}{x:List aU}{y:List bb} (a:ql b d h k o r x y p) (z:b.sub c):ql c d h k o r x y p:=⟨a.st.sub z,a.cat,a.rs.sub z,a.inv,a.rep⟩
def ql.step {L y z:U}{h k o p C:Nat}{D:ag}{P:List aU}{r:List bb} (a:ql L h k o p D P r C) (E:C<900) {c:dq} (F:dj c.row) {b:Int×List aU×ag} (x:iw D P c b)
  (S:dE y h k o b.2.2 b.2.1) (T:cB h k o L y) (V:ht z p (hr r c).2) (W:eA p y z):ql z h k o p b.2.2 b.2.1 (hr r c).2 (C+1)/\D.le b.2.2/\(b.2.2.one=false->b.1=(hr r c).1):=by
 have G:=a5b x;have e:=a.rs.p4 (T.rs a.st);refine⟨⟨S.a5u e W,a5c a.cat x,V,a4x a.inv E F,λd=>(Hv x a.inv E F (a.rep (G.zero d)) d).2⟩,G,λd=>(Hv x a.inv E F (a.rep (G.zero d)) d).1⟩
def dq.tN (a:dq):Prop:=a.table.length<=100/\a.aD.length<=20/\(∀b∈a.aD,b.length<=100)/\a.row.length<=50
def dq.tN.fit (a:h3.tN):h3.Fit:=⟨by have:=a.1;omega,by have:=a.2.1;omega,λb c=>by have:=a.2.2.1 b c;omega,by have:=a.2.2.2;omega⟩
theorem a5v (c:List dr) (D:Own) (p:U) (W:c.length<=9223372036854775807):
  AC Tryz.prog 7 [.J (lN c) D] p λE F=>F=p/\ ∃r,E= .v (.bool r)/\(r=false->c.length<=300/\ ∀h∈c,h.d.tN):=by
 have e:=As (a:=c);refine aK hm KJ ?_;refine aH (λx=> ?_) λf=> ?_;simp;refine gL [0] (λd:Nat=> [(3,.v (.int .i64 d))]) (λd=>d<=c.length/\ ∀h∈c.take d,h.d.tN) (λd=>c.length - d) 0 ⟨a7b _,λh k=>by cases k⟩ aO ?_;rintro d ⟨g,G⟩ L;refine aa ?_;refine aH (λx=> ?_) λx=> ?_
 .have o:d<c.length:=aaU;have P:=a6y o;have i:=Hr P;have S:=a7K o;generalize c[d]=a at*;have j:=dr.m1 (a:=a);have l:=dr.m2 (a:=a);have m:=dr.m3 (a:=a);have n:=dr.a1d (a:=a);have q:=iq (e6:=a.d.aD);have s:=bM (q:=a.d.row);have t:=tm (A:=a.d.table);generalize a.C=u at*;refine aa ?_;refine aH (λT=> ?_) λT=> ?_;rotate_left;simp;refine aH (λc2=> ?_) λc2=> ?_;rotate_left;simp;refine aH (λaE=> ?_) λaE=> ?_;simp;refine gL [0,3] (λb:Nat=> [(4,.v (.int .i64 b))]) (λb=>b<=a.d.aD.length/\ ∀V∈a.d.aD.take b,V.length<=100) (λb=>a.d.aD.length - b) 0 ⟨a7b _,λh k=>by cases k⟩ aO ?_;rintro b ⟨v,y⟩ L;refine aa ?_;refine aH (λaM=> ?_) λaM=> ?_
  .have z:b<a.d.aD.length:=aaU;have w:=tn z;have A:a.d.aD.take (b+1)=a.d.aD.take b++ [a.d.aD.getD b []]:=eR z;have B:=tm (A:=a.d.aD.getD b []);generalize a.d.aD.getD b []=H at*;refine aa ?_;refine aH (λbh=> ?_) λbh=> ?_;simp;grind
  .obtain rfl:b=a.d.aD.length:=aaU;rw[a6V]at y;refine⟨d+1,⟨o,λh C=> ?_⟩,rfl,aaU⟩;rw[S]at C;rcases a6L.1 C with k|k
   .exact G h k
   .obtain rfl:=a6U.1 k;exact⟨aaU,aaU,y,aaU⟩
 grind
def a5w:List UInt8:=cG (ck ([1,5],true) az az)
def a5x:List UInt8:=cG (cU [[1,5]])
def xS:ag:=fc (fc ag.new a5w) a5x
def a5y:bb:=⟨[116],[[97]],[],.nil,none⟩
def a6n:bb:=a5y.put [1,5]
def a6o:dq:=⟨1,[116],[[97]],[]⟩
def a6p:dq:=⟨3,[116],[],[1,5]⟩
def a6q:dq:=⟨3,[116],[],[1,6]⟩
def a6r:dq:=⟨3,[116],[],[2,3,4]⟩
def a6s:dq:=⟨4,[116],[],[1,6]⟩
def a6t:dq:=⟨2,[116],[],[]⟩
def a5z:cI []=true:=(ee.nil (n:=0)).cat aaU
structure nW (a b:U) (c gA d W:Nat) (h:ag) (l:List aU) (cK:List bb) (n:Nat):Prop where
 lQ:ql b c gA d W h l cK n
 sub:a.sub b
 AG:a c=none
 AH:a gA=none
 AI:a d=none
 va:a W=none
def nW.step {D E x y:U}{h k o p z:Nat}{C:ag}{F:List aU}{r:List bb} (a:nW D E h k o p C F r z) (T:z<900) {d:dq} (V:dj d.row) {c:Int×List aU×ag} (W:iw C F d c)
  (e:dE x h k o c.2.2 c.2.1) (G:cB h k o E x) (f:ht y p (hr r d).2) (L:eA p x y):nW D y h k o p c.2.2 c.2.1 (hr r d).2 (z+1)/\C.le c.2.2/\(c.2.2.one=false->c.1=(hr r d).1):=by
 obtain⟨g,i,j⟩:=a.lQ.step T V W e G f L;refine⟨⟨g,λP S b=>L P S ?_ (G P S ?_ ?_ ?_ (a.sub _ _ b)),a.AG,a.AH,a.AI,a.va⟩,i,j⟩
 .rintro rfl;rw[a.va]at b;cases b
 .rintro rfl;rw[a.AG]at b;cases b
 .rintro rfl;rw[a.AH]at b;cases b
 .rintro rfl;rw[a.AI]at b;cases b
def nW.mono (a:nW f s e i v M H e3 a8 b9) (b:s.sub e0):nW f e0 e i v M H e3 a8 b9:=⟨a.lQ.sub b,U.au a.sub b,a.AG,a.AH,a.AI,a.va⟩
def a5A (p:List dr) (j:Own) (r:U) (l: ∀P∈p,P.d.tN/\dj P.d.row) (Y:p.length<=9223372036854775807):
  AC Tryz.prog 8 [.J (lN p) j] r λS D=>S= .aJ [.v (.pointer none),.v (.pointer none)]\/ ∃d h k W o x y T,S= .aJ [.ptr d 0,.ptr W 0]/\T<=30/\o.one=false/\nW r D d h k W o x y T:=by
 have Z:=As (a:=p);refine aK hm KL ?_;refine ah (a3I r) ?_;rintro _ m ⟨d,h,k,rfl,E,n,q,s,t⟩;refine aa ?_;refine aN λW F=> ?_;have u:=t.sub (U.af (X:= .cells [.J [] .nil]) U.a6 F);have a:nW r (m.set W (.cells [.J [] .nil])) d h k W ag.new [] [] 0:=⟨⟨u,a5z,⟨[],.nil,U.ai _ _ _,trivial⟩,ee.nil,λ_=>⟨rfl,λj9 G=>by cases G⟩⟩,U.af E (U.bI E F),n,q,s,U.bI E F⟩;refine aa ?_;refine cg [0,4,5] (λb:Nat×ag×List aU×List bb=> [(6,.v (.int .i64 (b.1)))]) (λb D=>b.1<=30/\b.1<=p.length/\nW r D d h k W b.2.1 b.2.2.1 b.2.2.2 b.1) (λb=>30 - b.1) (0,ag.new,[],[]) ⟨⟨aaV,a7b _,a⟩,aO⟩ ?_;rintro⟨z,o,x,y⟩ L ⟨v,w,a⟩ k0
 dsimp only at v w a|-
 refine aa ?_;refine aH (λA=> ?_) λA=> ?_;refine aH (λaM=> ?_) λaM=> ?_
 .have V:z<p.length:=aaU;have e:=a6y V;have k1:=Hr e;obtain⟨f,g⟩:=l _ (a6D e);generalize p[z]=c at*;have B:=a3Y L d h k o x a.lQ.st (Av a.lQ.cat) a.lQ.cat c f.fit;have H:=λC G=>a4U C W z y G a.lQ.inv aaU c f.fit g;have k2:c.C.length=4:=rfl;have k3:(.agg (c.C.take 4))=c.V:=rfl;have k4:aL true 4 c.C=c.V:=rfl;generalize c.C=k5 at*;generalize c.V=k6 at*;refine aa ?_;refine ah B ?_;rintro _ C ⟨res,I,rfl,K,i⟩;refine aa ?_;refine ah (H C (a.lQ.rs.p4 (i.rs a.lQ.st))) ?_;rintro _ k7 ⟨M,N,rfl⟩;obtain⟨O,k8,k9⟩:=a.step aaU g I K i M N;refine aa ?_;exact⟨(z+1,res.2.2,res.2.1,(hr y c.d).2),⟨by simp only;omega,V,O⟩,rfl,by simp only;omega⟩
 all_goals
  refine bk (tK L d h k o x a.lQ.st) ?_;refine ah (Zi L h k o a.lQ.st.fO) ?_;rintro _ C ⟨Q,l0,l1,rfl⟩;cases X:o.one with
  |true=>refine aa ?_;exact⟨_,U.a6,.inl trivial⟩
  |false=>refine aa ?_;exact⟨_,U.a6,.inr ⟨d,h,k,W,o,x,y,z,rfl,aaU,X,a.mono Q⟩⟩
def HK {k:Nat}: ∀(a:Nat) (b:a1.T a),dp k a b->jz a b<=(a+1)*(a1.ba a b).length
 |0,b,d=>by
  have:=a7B.2 d.ne;rw[jz];omega
 |a+1,b,d=>by
  have C:=a7B.2 d.ne;have p: ∀c:List (a1.T a),(∀h∈c,dp k a h)->(c.map (jz a)).sum<=(a+1)*(c.flatMap (a1.ba a)).length:=λc=>by
   induction c with
   |nil=>intro _;simp
   |cons h c ih=>intro o;have D:=HK a h (o h aaV);have E:=ih λr x=>o r (by simp[x]);rw[a6Q,a7Q,a7a,a6A,Nat.mul_add];omega
  have y:=p (a1.kids b) d.kids;have z:a1.ba (a+1) b=(a1.kids b).flatMap (a1.ba a):=a1.fN (a:=a1.kids b);rw[<-z]at y;rw[jz];rw[a9R];omega
def AJ {c:Type}{d:c->Nat}{h:Nat}: ∀(a:List c),(∀b∈a,d b<=h)->(a.map d).sum<=a.length*h
 | [],_=>by simp
 |b::a,k=>by
  have r:=k b aaV;have x:=AJ a λo p=>k o (by simp[p]);rw[a6Q,a7Q,a6E,a9R];omega
def a5B (a:ep e h5) (F:e<=1000):mL h5<=2000000/\lJ h5.bR<=4000/\(h5.bR.bo≠az->1<=h5.bR.bo.size)/\(h5.bR.bu≠az->1<=h5.bR.bu.size):=by
 have G:=a.c;have L:=a.df.cf;have h:=a.nV.length_eq;have P:=a.dK;have C:=ez (a:=h5.aD.length+1) aaU aaU a.df.eW aaU;have r:(h5.bR.bo).size=h5.bo.size:=C.size;have x:h5.bR.bu=gV h5.bu:=rfl;have y:rM h5.bu<=1000000/\((gV h5.bu)=az\/(gV h5.bu).size=(ec h5.bu).length/\1<=(ec h5.bu).length):=by
  have o:=a.go;revert h o
  match h5.bu with
  |none=>exact λ_ _=>⟨by simp[rM],.inl rfl⟩
  |some ⟨b,d⟩=>intro h o;have h:(a1.ba b d).length=h5.rows.length:=h;have p:=GT.fQ o;have D:=HK b d p;have E:=dp.high b d p;have z:=kL aaU aaU p;have S:(b+1)*(a1.ba b d).length<=1000*1000:=a9G aaU aaU;exact⟨by show jz b d<= _;omega,.inr ⟨z.size,z.pos⟩⟩
 refine⟨?_,?_,λk=> ?_,λk=> ?_⟩
 .rw[mL];omega
 .rw[lJ,bQ,bQ,r,x];rcases y.2 with c|⟨c,_⟩
  .rw[c];show _+(2*0 - 1)<= _;omega
  .rw[c];omega
 .rw[r];cases hk:h5.bo with
  |nil=>exact absurd (by show bm h5.bo=az;rw[hk];rfl) k
  |node T live D E=>rw[aC.size];omega
 .rw[x]at k|-;rcases y.2 with c|⟨c,V⟩
  .exact absurd c k
  .omega
def a5C (b:List bb) (a:List (List UInt8)):(lO b a).length<=a.length+(b.map mL).sum:=
 Ao b a λc _ a=>by
  have d:=rK c.bo a;have h:=Aw c.bu (fs c.bo a);rw[mL];omega
def a5D (h: ∀a∈a8,ep e a/\e<=1000) (c: ∀d∈e6,d.length=32): ∀d∈lO a8 e6,d.length=32:=
 Aq a8 e6 (λa k e6 c=>by
  obtain⟨b,o⟩:=h a k;have p:=b.c;have r:=b.df.cf;exact Ax (e:=a.aD.length+1) aaU aaU a.bu _ b.go (rL (c:=a.aD.length+1) aaU aaU a.bo e6 b.df.eW aaU c)) c
def a5E (C:List dr) (t:Own) (Q:C.length<=9223372036854775807) (a05: ∀V∈C,dj V.d.row) (X:U):
  AC Tryz.prog 3 [.J (lN C) t] X λa06 _=>a06= .v (.bool true):=by
 have a99:=As (a:=C);refine aK hm KF ?_;refine ah (a5s X) ?_;rintro _ u rfl;refine aa ?_;refine ah (a5v C t u Q) ?_;rintro _ u ⟨rfl,D,rfl,Y⟩;cases D with
 |true=>refine aa ?_;exact⟨_,U.a6⟩
 |false=>
  obtain⟨b00,Z⟩:=Y rfl;clear Y;refine aa ?_;refine ah (a5A C t u (λV j9=>⟨Z V j9,a05 V j9⟩) Q) ?_;rintro _ k0 (rfl|⟨E,k,o,W,p,b01,b,a07,rfl,b02,a08,k1⟩)
  .refine aa ?_;exact⟨_,U.a6⟩
  refine aa ?_;have L:=k1.lQ;have v:=L.rep a08;have r:=L.inv;have e:=r.cat aaU;have k2:=a5t r aaU;have b03:=r.dK;have F:=L.st;rw[v.eq]at F;have k3:=L.rs;have k4:=v.ins;clear v k1 L Z;have P:=λa z=>a5B (r.ok a z) aaU;have k5: ∀c∈b,ep a07 c/\ds p c.bo/\ix p c.bu:=λc x=>⟨r.ok c x,k4 c x⟩;have k6:=HH aaU b [] k5 λ_ _ _ _ _ _ _ _ d=>by cases d
  have a09:=HI aaU b [] k5;have k7:((b.map bb.bR).map lJ).sum<=100000000:=by
   have:=AJ (d:=lJ) (h:=4000) (b.map bb.bR) λc x=>by obtain⟨a,z,rfl⟩:=a6S.1 x;exact(P a z).2.1
   rw[a6J]at this;omega
  have a10:(b.map mL).sum<=100000000:=by have:=AJ (d:=mL) (h:=2000000) b λc x=>(P c x).1;omega
  have k8: ∀D∈b.map bb.bR,(D.bo≠az->1<=D.bo.size)/\(D.bu≠az->1<=D.bu.size):=λc x=>by
   obtain⟨a,z,rfl⟩:=a6S.1 x;exact(P a z).2.2
  have k9:(b.map bb.bR).length<=1000:=by rw[a6J];omega
  have f:=a5D (λa z=>⟨r.ok a z,aaU⟩) (e6:= []) λ_ d=>by cases d
  have a11:=a5C b [];refine bk (tK k0 E k o _ _ F) ?_;refine ah (GG k0 E k o _ _ F (Av e) e k2) ?_;rintro _ a13 ⟨l0,a14,a15,rfl,l1⟩;refine aa ?_;refine ah (a2K a13 k o p (F.sub l0).fO _ a14 a15 l1 k9 k8 k7) ?_;rw[k6];rintro _ l2 ⟨a16,h,_⟩;obtain⟨a18,rfl⟩:=h rfl;clear h;have l3:=U.au l0 a16;refine aa ?_;refine ah (a5d l2 l2 W b (k3.sub l3) r aaU [] (.J [] .nil) (av.nil U.a6) (λ_ d=>by cases d) (by simpa using a10)) ?_;rintro a5 l4 w;have l5:=U.au l3 w.1;have l6:=Ay (lO b []) (lO b []) (.J ((lO b []).map bz) a18) a5 l4 (bJ.J (oV f)) (bJ.dv w aaU rfl (oV f)) f f (by rw[a6G]at a11;omega);refine aa ?_;refine bk l6 ?_;refine ah (GG l4 E k o _ _ (F.sub l5) (Av e) e k2) ?_;rintro _ a19 ⟨a27,a29,a30,rfl,A⟩;have l7:=U.au l5 a27;have a34:=A.len;rw[a6J]at a34;obtain⟨b04,b05,B,l8⟩:=k3.sub l7;have b06:=l8.len;have a36:=F.sub l7;clear l6 l1 w k6;refine cg [3,4,7] (λS:Nat=> [(8,.v (.int .i64 (S:Int)))]) (λS a38=>S<=b.length/\a19.sub a38) (λS=>b.length - S) 0 ⟨⟨a7b _,U.a6⟩,aO⟩ ?_;rintro g i ⟨b07,H⟩ b08;have b09:=U.ae (H _ _ B);have G:=a36.sub H;refine aa ?_;refine aH (λa42=> ?_) λa42=> ?_
  .have l9:g<b.length:=aaU;obtain⟨a,I⟩: ∃a,b[g]? =some a:=⟨_,a6y l9⟩;have j:=a6D I;have y:=r.ok a j;obtain⟨a43,a47⟩:=k4 a j;obtain⟨_,K,n0,n1⟩:=P a j;have a48:=y.c;have b10:=y.df.cf;obtain⟨_,b11,T,rfl,M⟩:=A.get (show(b.map bb.bR)[g]? =some a.bR by simp[I]);obtain⟨_,b12,b13,b14,b15,b16,a52,a56,rfl,n2,_,n3,a57⟩:=l8.get I;obtain⟨b17,_,_,b18,a61,a62,a63,a65,a68,a69,a71,a73,a74⟩:=M.all;obtain⟨n4,n5⟩:=M.k;obtain⟨n9,a00⟩:=M.z;obtain⟨a81,_⟩:=HF (e:=a.aD.length+1) aaU aaU y.df.eW aaU a43 (e6:= []) λ_ _ _ _ _ _ _ _ d=>by cases d
   obtain⟨a83,_⟩:=HG (e:=a.aD.length+1) aaU aaU y.go a47 (e6:= []) λ_ _ _ _ _ _ _ _ d=>by cases d
   have b19:=iq (e6:=a.aD);have b20:(a.aD.length:Int)+1=((a.aD.length+1:Nat):Int):=aaV;simp only[bb.bR]at a71 a73 a74 n4 n5 n9 a00 n0 n1 K;rw[lJ]at K
   dsimp only at K
   have l: ∀c∈([]:List (List UInt8)),c.length=32:=λ_ d=>by cases d
   have m:=rL (c:=a.aD.length+1) aaU aaU a.bo [] y.df.eW aaU l;have n:=Ax (e:=a.aD.length+1) aaU aaU a.bu [] y.go l;have a84:=rK a.bo [];have a86:=Aw a.bu [];have a88:=(P a j).1;rw[mL]at a88;rw[a6G]at a84 a86;have b21:=n3.cells;refine aa ?_;refine bk (tK i E k o p _ G) ?_;refine ah (zo i k o p G.fO (bm a.bo) a61 a62 a63 n4 n5 n0 aaU (a.aD.length+1) aaU aaU) ?_;rw[a81];rintro _ eP ⟨N,h,_⟩;obtain⟨a01,rfl⟩:=h rfl;clear h;refine aa ?_;refine bk (tK eP E k o p _ (G.sub N)) ?_;refine ah (zo eP k o p (G.sub N).fO (gV a.bu) a65 a68 a69 n9 a00 n1 aaU (a.aD.length+1) aaU aaU) ?_;rw[a83];rintro _ a02 ⟨a89,h,_⟩;obtain⟨a90,rfl⟩:=h rfl;clear h;have a92:=U.au N a89;have q:=U.au H a92;have eu:=U.ae (q _ _ B);have a94:=U.ae (q _ _ n2);refine aa ?_;refine ah (vY (E:=a.aD.length+1) aaU aaU a.bo a52 (.J [] .nil) a02 a02 [] (n3.mono q) (av.nil U.a6) l y.df.eW aaU (by rw[a6G];omega)) ?_;rintro di O a03;have s:=U.au q a03.1;have a95:=Ay (fs a.bo []) (fs a.bo []) (.J ((fs a.bo []).map bz) a01) di O (bJ.J (oV m)) (bJ.dv a03 aaU rfl (oV m)) m m aaU;refine aa ?_;refine bk a95 ?_;have eu:=U.ae (s _ _ B);have a94:=U.ae (s _ _ n2);refine aa ?_;refine ah (Hw (e:=a.aD.length+1) aaU aaU a.bu a56 (.J [] .nil) O O [] (a57.fY (U.qW s)) (av.nil U.a6) l y.go (by rw[a6G];omega)) ?_;rintro a96 a97 a04;have b22:=U.au s a04.1;have a98:=Ay (kW a.bu []) (kW a.bu []) (.J ((kW a.bu []).map bz) a90) a96 a97 (bJ.J (oV n)) (bJ.dv a04 aaU rfl (oV n)) n n aaU;refine aa ?_;refine bk a98 ?_;exact⟨g+1,l9,rfl,aaU⟩
  .refine bk (tK i E k o p _ G) ?_;refine ah (a2L i k o p G.fO _ a29 a30 A k9 k8 k7) ?_;rw[a09];rintro _ eP ⟨a48,h,_⟩;obtain⟨a01,rfl⟩:=h rfl;clear h;refine aa ?_;exact⟨_,U.a6⟩
end Go.Proofs.YtcfpcblgmmeioaaGreat
namespace Go.bD
open Go Go.ChangeShapes Go.WideShapes Go.RowKit
def lR (a:World):bl:=λb c=>a.cell? ⟨b,c,none⟩
def a5F (b:World):Holds (lR b) U.emp b:=⟨λ_ _ _ a=>a,λ_ _ a=>by cases a⟩
def fE (k:bl) (a:List Value) (b:List R):Prop:=a.length=b.length/\ ∀(c:Nat) (d:Value) (h:R),a[c]? =some d->b[c]? =some h->aX k d h
variable{u:bl}
theorem fE.nil:fE u [] []:=⟨rfl,λb c d a=>by simp at a⟩
variable{g B c0:List R}
def fE.append {h k:List Value} (c:fE u h g) (o:fE u k B):fE u (h++k) (g++B):=by
 refine⟨by simp[c.1,o.1],λx p r b a=> ?_⟩;rw[a9U]at b a;rw[<-c.1]at a;split at b
 .rename_i d;rw[if_pos d]at a;exact c.2 x p r b a
 .rename_i d;rw[if_neg d]at a;exact o.2 _ p r b a
variable{n b6:R}{e4:Value}
theorem fE.one (a:aX u e4 n):fE u [e4] [n]:=⟨rfl,λb c d h k=>by
 grind⟩
def fE.a5G {a:Array Value} (b:fE u a.toList g):bw u a g:=bw.dU.2 b
def da (h:Program) (k:TypeId) (o:List R->Prop):Prop:=
 ∀ {b:Type} (p:TypeId×Value->b) (c:World) (r:Nat) (x:Nat->Bool) (y:Bool) (z:Nat) (d:List Value) (C:DataW b×List MemPlace),DataW.trod p h c r x y z k d=some C->
  ∃a,o a/\(∀D∈a,D.one=true)/\fE (lR c) d a
def a6u (a:List R):Prop:= ∃b:Bool,a= [.v (.bool b)]
def SInt (a:IntKind) (c:List R):Prop:= ∃b:Int,(Lit.int a b).wf=true/\c= [.v (.int a b)]
def w6 (a:List R):Prop:= ∃b:UInt8,a= [ak b]
def rO (a:List R):Prop:= ∃aV:List UInt8,aV.length<=maxLen/\a= [bn aV]
def w7:List (List R->Prop)->List R->Prop
 | [],us=>us= []
 |c::d,us=> ∃a b,c a/\w7 d b/\us=a++b
def a5H (a:List R->Prop):Nat->List R->Prop
 |0,us=>us= []
 |d+1,us=> ∃b c,a b/\a5H a d c/\us=b++c
def w8 (b:List R->R) (c:List R->Prop) (d:List R):Prop:= ∃a:List (List R),(∀h∈a,c h)/\a.length<=maxLen/\d= [.J (a.map b) .any]
variable{e1:IntKind}{m:Program}{b2:TypeId}
def da.int (a:m.underlying b2=some (.int e1)):da m b2 (SInt e1):=λh k o p r x y z b=>by
 obtain⟨c,rfl,_,d⟩:=DataW.trod_int a b;exact⟨_,⟨c,d,rfl⟩,by simp[R.one],fE.one (.v _ rfl)⟩
def da.byte (b:m.underlying b2=some (.int .u8)):da m b2 w6:=λk o p r x y z C c=>by
 obtain⟨a,rfl,_,d⟩:=DataW.trod_int b c;obtain⟨D,E⟩:=bounds_u8 d;have h:(Value.int .u8 a)= .int .u8 ((UInt8.ofNat a.toNat).toNat):=by congr 1;rw[a7A];omega
 refine⟨_,⟨UInt8.ofNat a.toNat,rfl⟩,by simp[ak,R.one],fE.one ?_⟩;rw[ak,<-h];exact .v _ rfl
def da.str (b:m.underlying b2=some .string):da m b2 rO:=λh k o p r x y z c=>by
 obtain⟨a,rfl,_,C⟩:=DataW.trod_string b c;refine⟨_,⟨a.data.toList,by trivial,rfl⟩,by simp[bn,R.one],fE.one ?_⟩;have d:(⟨a.data.toList.toArray⟩)=a:=by cases a;simp
 rw[bn,d];exact .v _ rfl
def AK (a:Program):List Field->List (List R->Prop)->Nat->Nat->Prop
 | [],[],off,b=>off=b
 |c::d,h::rs,off,b=>c.offset=off/\da a c.type h/\AK a d rs (off+a.cellsOf c.type) b
 | _,_,_,_=>False
theorem da.struct {b:Array Field}{r:List (List R->Prop)} (F:m.underlying b2=some (.struct b)) (G:AK m b.toList r 0 (m.cellsOf b2)):da m b2 (w7 r):=λL y P S T B p H V=>by
 obtain⟨W,e,_,_,f,g,i⟩:=DataW.trod_struct F V;have j: ∀(k:List Field) (c:List (List R->Prop)) (a d:Nat),b.toList.drop a=k->AK m k c d (m.cellsOf b2)-> ∃h,w7 c h/\(∀l∈h,l.one=true)/\fE (lR y) (p.drop d) h:=by
  intro k
  induction k with
  |nil=>
   intro c a d n x;cases c with
   |cons _ _=>trivial
   |nil=>exact⟨[],rfl,aaV,by rw[a7Z (by rw[f];exact aaP x.symm)];exact fE.nil⟩
  |cons o k ih=>
   intro c a d n x;cases c with
   |nil=>trivial
   |cons I c=>
    obtain⟨z,C,D⟩:=x;have K:a<b.toList.length:=by grind[List.drop_of_length_le]
    have q:b.toList[a]=o/\b.toList.drop (a+1)=k:=by grind[List.drop_eq_getElem_cons,List.cons.inj]
    obtain⟨h,s,M,t⟩:=ih c (a+1) _ q.2 D;have u:b[a]? =some o:=by grind
    have:=i a o u;have v:a<W.length:=by rw[g];trivial
    rw[a6y v,z]at this;obtain⟨E,w,N,a3⟩:=C L y P S T e _ _ this;refine⟨E++h,⟨E,h,w,s,rfl⟩,?_,?_⟩;grind
    .have A:p.drop d=(p.drop d).take (m.cellsOf o.type)++p.drop (d+m.cellsOf o.type):=by rw[<-a7p,a7f]
     rw[A];exact a3.append t
 obtain⟨h,z,C,D⟩:=j b.toList r 0 0 rfl G;grind
theorem HL {h o:Type} (c:h->Option o): ∀(a:List h) (d:List o),a.mapM c=some d->d.length=a.length/\ ∀(p:Nat) (r:h),a[p]? =some r-> ∃x,d[p]? =some x/\c r=some x
 | [],d,b=>by simp_all
 |z::a,d,b=>by
  rw[List.mapM_cons]at b;cases y:c z with
  |none=>simp[y]at b
  |some D=>
   cases k:a.mapM c with
   |none=>simp[k]at b
   |some C=>simp[y,k]at b;subst b;obtain⟨E,F⟩:=HL c a C k;grind
variable{e i v M b9 j2:Nat}{l h9:World}
def HM {d:Addr}{c:List Value} (b:l.cells? i d e=some c):c.length=e/\ ∀a,a<e->c[a]? =l.cell? (d.add a):=by
 unfold World.cells? at b;split at b
 .obtain⟨h,k⟩:=HL _ _ _ b;refine⟨by simpa using h,λa o=> ?_⟩;obtain⟨x,p,r⟩:=k a a (by simp[o]);rw[p,r]
 .cases b
theorem a5I {b:Addr} (a:l.cell? b=some e4):b.spot=none:=by
 unfold World.cell? at a;split at a;simp_all
 .cases a
theorem add_add {a:Addr} (d:a.spot=none) (b:Nat):a.add b=⟨a.block,a.off+b,none⟩:=by
 unfold Addr.add;split
 .rename_i c;subst c;cases a;simp_all
 .rfl
structure tO (b:List R->R) (a:List R->Prop) (k:Nat):Prop where
 len: ∀us,a us->us.length=k
 cells: ∀us,a us->(b us).cells=us
def HN {c:List R->R}{d:List R->Prop}{o:Nat} (h:tO c d o): ∀b:List (List R),(∀a∈b,d a)->flat (b.map c)=b.flatten
 | [],_=>rfl
 |a::b,k=>by
  simp only[a6Q,flat,a7a,a8p];rw[h.cells a (k a aaV)];have:=HN h b λa p=>k a (by simp[p]);simp only[flat]at this;rw[this]
theorem da.slice {u:TypeId}{r:List R->Prop}{l:List R->R} (Z:m.underlying u=some (.slice b2)) (j9:m.cellsOf b2=e) (n:0<e) (F:tO l r e) (k0:da m b2 r):da m u (w8 l r):=λk1 k v k2 k3 n1 n2 o k4=>by
 rcases DataW.trod_slice Z k4 with ⟨rfl,_⟩|⟨W,len,w,k5,n3,k6,_,rfl,_,n4,k7,n5,n9,A,_,_⟩
 .exact⟨_,⟨[],aaV,aaV,rfl⟩,by simp[R.one],fE.one (.dg none 0 .any (λ_=>rfl) trivial)⟩
 .rw[j9]at A;have B: ∀c,c<len-> ∃b x,r b/\(∀y∈b,y.one=true)/\k.cells? v (W.add (c*e)) e=some x/\fE (lR k) x b:=λc p=>by
   have H:=A c p;have k8:c<k5.length:=aaU;rw[a6y k8,Option.bind_eq_some_iff]at H;obtain⟨x,f,q⟩:=H;obtain⟨b,s,I,K⟩:=k0 k1 k v k2 k3 k6 x _ q;grind
  by_cases k9:len=0
  .subst k9;exact⟨_,⟨[],aaV,aaV,rfl⟩,by simp[R.one],fE.one (.dg (some W) w .any (λl0=>by cases l0) trivial)⟩
  .have M:W.spot=none:=by obtain⟨b,x,_,_,f,_⟩:=B 0 aaU;obtain⟨q,t⟩:=HM f;have S:=t 0 n;simp only[a9Q]at S;grind[List.getElem?_eq_getElem,Addr.add,a5I]
   obtain⟨z,C,a00⟩:=W;simp only at M;subst M;have l1: ∃d:List (List R),d.length=len/\ ∀c b,d[c]? =some b->r b/\(∀y∈b,y.one=true)/\ ∀a h,b[a]? =some h-> ∃o,k.cell? ⟨z,C+(c*e+a),none⟩=some o/\aX (lR k) o h:=by
    have: ∀D,D<=len-> ∃d:List (List R),d.length=D/\ ∀c b,d[c]? =some b->r b/\(∀y∈b,y.one=true)/\ ∀a h,b[a]? =some h-> ∃o,k.cell? ⟨z,C+(c*e+a),none⟩=some o/\aX (lR k) o h:=by
     intro D
     induction D with
     |zero=>simp
     |succ D ih=>
      intro a01;obtain⟨d,T,V⟩:=ih aaU;obtain⟨b,x,s,I,f,K⟩:=B D aaU;refine⟨d++ [b],by simp[T],λc N p=> ?_⟩;rw[a9U]at p;split at p
      .exact V c N p
      .rename_i a02;have l2:c=D:=by grind
       subst l2;have:N=b:=by simp_all
       subst this;refine⟨s,I,λa h g=> ?_⟩;have l3:a<e:=by have:=(a6H.1 g).1;rw[F.len _ s]at this;exact this
       obtain⟨q,t⟩:=HM f;have S:=t a l3;have O:a<x.length:=aaU;rw[a6y O]at S;have l4:((⟨z,C,none⟩:Addr).add (c*e)).add a=⟨z,C+(c*e+a),none⟩:=by rw[add_add (by rw[add_add rfl]),add_add rfl];simp[aa0]
       rw[l4]at S;exact⟨x[a],S.symm,K.2 a _ _ (a6y O) g⟩
    simp_all
   obtain⟨d,T,V⟩:=l1;have G: ∀b2∈d,r b2:=λb2 E=>by
    obtain⟨c,p,rfl⟩:=a7l E;exact(V c _ (a6y p)).1
   have Q:=HN F d G;have l5: ∀(L:List (List R)),(∀b2∈L,r b2)-> ∀a h,L.flatten[a]? =some h-> ∃b,L[a/e]? =some b/\b[a%e]? =some h:=by
    intro L
    induction L with
    |nil=>intro _ a h P;simp at P
    |cons b2 L ih=>
     intro X a h P;have a03:=F.len b2 (X b2 aaV);rw[a8p,a9U]at P;split at P;grind[Nat.div_eq_of_lt,Nat.mod_eq_of_lt]
     .rename_i g;obtain⟨b,l6,l7⟩:=ih (λb2 E=>X b2 (by simp[E])) (a - b2.length) h P;have Y:a=(a - b2.length)+e:=aaU;refine⟨b,?_,?_⟩
      .rw[Y,Nat.add_div_right _ n];exact l6
      .rw[Y,Nat.add_mod_right];exact l7
   have a04:d.flatten.length=len*e:=by
    rw[<-T];clear l5 Q T V
    induction d with
    |nil=>simp
    |cons b2 d ih=>rw[a8p,a6A,ih (λb2 E=>G b2 (by simp[E])),F.len b2 (G b2 aaV),a6E,a7I,a9v,aaa]
   refine⟨_,⟨d,G,aaU,rfl⟩,by simp[R.one],fE.one ?_⟩;have l8: ∀a h,d.flatten[a]? =some h-> ∃o,k.cell? ⟨z,C+a,none⟩=some o/\aX (lR k) o h:=λa h P=>by
    grind[Nat.div_add_mod']
   refine aX.J z C len w e (λa=>(k.cell? ⟨z,C+a,none⟩).getD undef) (d.map l) .any n (by simp[T]) k7 ?_ ?_ ?_ ?_ trivial
   .intro b2 E;obtain⟨b,i,rfl⟩:=a6S.1 E;rw[F.cells b (G b i),F.len b (G b i)]
   .intro y j;rw[Q,aa7]at j;obtain⟨b,i,j⟩:=j;obtain⟨c,p,rfl⟩:=a7l i;exact(V c _ (a6y p)).2.1 y j
   .intro a g;have l9:a<d.flatten.length:=aaU;obtain⟨o,n0,a05⟩:=l8 a _ (a6y l9);show k.cell? _= _;rw[n0];rfl
   grind
def w9 (b:Program) (c:TypeId) (k:R->Prop):Prop:=
 ∀ {d:Type} (o:TypeId×Value->d) (a:World) (p:Nat) (r:Nat->Bool) (v:Value) (x:DataW d) (y:List MemPlace),Value.okWide b a .any p c v->DataW.Trod o b a 0 r true c v x y-> ∃h,k h/\aX (lR a) v h
theorem a5J {a:Reach}{v:Value} (b:Cell.okWide m l a e b2 v):v.cells= #[v]:=by
 cases v with
 |agg cs=>simp_all [Cell.okWide,Cell.ok]
 |tuple cs=>rfl
 | _=>rfl
def isRow (a:Option TypeDesc):Bool:=
 match a with
 |some (.struct _)=>true
 |some (.array _ _)=>true
 | _=>false
def AL (a:List R->Prop) (b:R):Prop:=a [b]
def a6v (b:List R->Prop) (c:R):Prop:= ∃a,b a/\c= .agg a
def w9.cell {k:List R->Prop} (b:isRow (m.underlying b2)=false) (p:da m b2 k):w9 m b2 (AL k):=λr x L y v P S c z=>by
 obtain⟨C,D⟩:=z;obtain⟨E,d,T,a⟩:=p r x 0 y true C _ _ D;have F:v.cells= #[v]:=by
  unfold Value.okWide at c;split at c
  .rename_i h;rw[h]at b;cases b
  .rename_i h;rw[h]at b;cases b
  .exact a5J c
 rw[F]at a;have G:=a.1
 match E,G,d,a with
 | [o],_,d,a=>exact⟨o,d,a.2 0 v o rfl rfl⟩
def tP (a:Program):List TypeId->List (R->Prop)->Prop
 | [],[]=>True
 |b::sF,c::lS=>w9 a b c/\tP a sF lS
 | _,_=>False
def tQ:List (R->Prop)->List R->Prop
 | [],a=>a= []
 |d::lS,a=> ∃b c,a=b::c/\d b/\tQ lS c
def HO {r:Program}{z:Type}{C:TypeId×Value->z}{h:World}{D:Nat}{E:Nat->Bool}: ∀(a:List TypeId) (lS:List (R->Prop)) (c:List Value) (k:List (DataW z)) (x:List MemPlace),
  tP r a lS->(∀(o:Nat) b v,a[o]? =some b->c[o]? =some v->Value.okWide r h .any D b v)->DataW.TrodAll C r h 0 E true a c k x-> ∃d,tQ lS d/\fE (lR h) c d/\k.length=a.length
 | [],[],c,k,x,_,_,y=>by
  obtain⟨rfl,rfl,rfl⟩:=trodAll_nil y;exact⟨[],rfl,fE.nil,rfl⟩
 |b::a,n::lS,c,k,x,F,G,y=>by
  obtain⟨v,P,S,T,V,W,rfl,rfl,rfl,e,f⟩:=trodAll_cons y;obtain⟨L,g,i⟩:=F.1 C h D E v S V (G 0 b v rfl rfl) e;obtain⟨d,j,l,m⟩:=HO a lS P T W F.2 (λo b v p q=>G (o+1) b v (by trivial) (by trivial)) f;exact⟨L::d,⟨L,d,rfl,g,j⟩,(fE.one i).append l,by simp[m]⟩
 | [],_:: _,_,_,_,p,_,_=>p.elim
 | _:: _,[],_,_,_,p,_,_=>p.elim
def a5K {a:MemPlace} (b:h9.heap[a.block]? =l.heap[a.block]?):l.sameAt h9 a:=by
 cases a with
 |cell c off=>show h9.cell? _=l.cell? _;have b:h9.heap[c]? =l.heap[c]? :=b;simp only[World.cell?,b]
 |map c=>exact b
theorem HP {b:Program}{z:Type}{C:TypeId×Value->z}{D E:World}{y:Nat} (F:laidOutB b=true) (G: ∀c,c<y->E.heap[c]? =D.heap[c]?): ∀(d:List TypeId) (o:List Value) (p:List (DataW z)) (h:List MemPlace),
  (∀a∈d,b.readableRec a=true/\a<b.types.size)->(∀L∈h,L.block<y)->DataW.TrodAll C b D 0 (λ_=>true) true d o p h->DataW.TrodAll C b E 0 (λc=>decide (c<y)) true d o p h
 | [],o,p,h,_,_,k=>by
  obtain⟨rfl,rfl,rfl⟩:=trodAll_nil k;rfl
 |a::d,o,p,h,P,S,k=>by
  obtain⟨v,T,j,V,L,W,rfl,rfl,rfl,e,f⟩:=trodAll_cons k;obtain⟨g,i⟩:=P a aaV;refine trodAll_cons_mk (WideElems.Trod_stays F g i e (λr x=>a5K (G _ (S r (a8M _ x)))) (λr x=>by simp_all)) ?_;exact HP F G d T V W (λa k=>P a (by simp[k])) (λr x=>S r (a8H _ x)) f
theorem a5L {b:MemPlace->Prop} (c:h9.os=l.os) (d:h9.output=l.output) (h: ∀a,a<l.heap.size->h9.heap[a]? =l.heap[a]?):l.keptBut h9 b:=by refine⟨c,d,λk o=> ?_⟩;grind
variable{I:Bool}{b5:FuncId}{b0:Type}
theorem a5M {L:TypeId×Value->b0}{c:Func}{k:ChangeSpec}{n q:Bool}{C:List (R->Prop)} (s:laidOutB m=true) (t: ∀d∈c.params.toList,m.readableRec d=true/\d<m.types.size)
  (P:k.vars= []) (u:c.resultTypes= #[b2]) (o:m.underlying b2=some .bool) (w:tP m c.params.toList C) (D: ∀a:List (DataW b0),a.length=c.params.toList.length->k.fn b0 a= {results:= [.lit (.bool true)],args:=a,vars:= []})
  (p:U) (b:World) (A:Holds (lR b) p b) (B: ∀h r,p h=some r-> ∃E,r= .ro E)
  (H: ∀x,tQ C x->AC m b5 x p λS _=>S= .v (.bool true))
  (K:Nat) (args:Array Value) (a M:List (DataW b0)) (N:List MemPlace) (O: ∀(y:Nat) d v,c.params[y]? =some d->args[y]? =some v->Value.okWide m b .any K d v)
  (T:DataW.Whole L m c.params.toList k.vars I b args.toList a M N):
  Calls m b5 args b λV W=> ∃v,V= .returned v/\k.post L m c I n q false b args v W:=by
 have e:=T;obtain⟨f,k2,g,i,rfl,_,_⟩:=T;rw[P]at i;obtain⟨rfl,rfl⟩:=trodVars_none i;obtain⟨x,Q,X,F⟩:=HO _ C _ _ _ w (λy d v j k3=>O y d v (by simp_all) (by simp_all)) g;have Y:=λZ j9=>e.lt Z (a8M _ j9);refine(H x Q args b (lR b) X.a5G A).mono ?_;rintro V W ⟨v,S,k4,k5,rfl,z,k0,rfl⟩;have k1:v= .bool true:=by cases k0;rfl
 subst k1;have l:=λh o=>by
  cases G:p h with
  |none=>exact z.block h o G
  |some r=>obtain⟨E,rfl⟩:=B h r G;exact(z.jE h E o G).1
 refine⟨_,rfl,a,[],f++ [],[],f,[],e,?_,?_,?_,a5L z.os z.output.1 l,λj=>by cases j⟩
 .rw[a7E,D a F,u];exact trodAll_cons_mk (shut_bool o true) trodAll_mk0
 .rw[a7E,D a F];exact HP s l _ _ _ _ t Y g
 .rw[a7E,D a F,P];rfl
def a5N {k:TypeId×Value->b0}{a:Func}{h:ChangeSpec}{C D:Bool}{o:List (R->Prop)} (E:laidOutB m=true) (F: ∀d∈a.params.toList,m.readableRec d=true/\d<m.types.size)
  (G:h.vars= []) (L:a.resultTypes= #[b2]) (P:m.underlying b2=some .bool) (S:tP m a.params.toList o) (T: ∀b:List (DataW b0),b.length=a.params.toList.length->h.fn b0 b= {results:= [.lit (.bool true)],args:=b,vars:= []})
  (V: ∀p,tQ o p->AC m b5 p U.emp λW _=>W= .v (.bool true))
  (c:World) (r:Nat) (args:Array Value) (b x:List (DataW b0)) (y:List MemPlace) (e: ∀(z:Nat) d v,a.params[z]? =some d->args[z]? =some v->Value.okWide m c .any r d v)
  (f:DataW.Whole k m a.params.toList h.vars I c args.toList b x y):
  Calls m b5 args c λg i=> ∃v,g= .returned v/\h.post k m a I C D false c args v i:=
 a5M E F G L P S T U.emp c (a5F c) (λ_ _ j=>by cases j) V r args b x y e f
open Go
def rP (a:List R):R:=a.headD (.aJ [])
end Go.bD
namespace Go.Proofs.YtcfpcblgmmeioaaGreat
open Go Go.bD
variable{b1:Int}
def wf_i64 (b:(Lit.int .i64 b1).wf=true): -9223372036854775808<=b1/\b1<=9223372036854775807:=by
 have a:IntKind.i64.min<=b1/\b1<=9223372036854775807:=by simpa[Lit.wf] using b
 have c:IntKind.i64.min= -9223372036854775808:=aaY;rw[c]at a;exact a
def a5O:tO rP (SInt .i64) 1:=⟨by rintro a ⟨b,_,rfl⟩;rfl,by rintro a ⟨b,_,rfl⟩;rfl⟩
abbrev wa:List R->Prop:=w8 rP (SInt .i64)
variable{g B c0:List R}
theorem a5P (o:wa g): ∃h:List Int,dj h/\g= [.J (ad h) .any]:=by
 obtain⟨b,k,p,r⟩:=o;have: ∃a:List Int,dj a/\b.map rP=ad a:=by
  clear p r
  induction b with
  |nil=>exact⟨[],(λF x=>by cases x),rfl⟩
  |cons c b ih=>
   obtain⟨a,y,z⟩:=ih λc C=>k c (by simp[C]);obtain⟨D,E,rfl⟩:=k c aaV;refine⟨D::a,?_,by simp only[a6Q,z];rfl⟩;intro v d;rcases a6W.1 d with rfl|d
   .have:=wf_i64 E;omega
   .exact y v d
 simp_all
def a5Q:tO rP rO 1:=⟨by rintro a ⟨b,_,rfl⟩;rfl,by rintro a ⟨b,_,rfl⟩;rfl⟩
abbrev wb:List R->Prop:=w8 rP rO
theorem a5R (h:wb g): ∃k:List (List UInt8),g= [.J (bL k) .any]:=by
 obtain⟨a,d,o,p⟩:=h;have: ∃b:List (List UInt8),a.map rP=bL b:=by
  clear o p
  induction a with
  |nil=>exact⟨[],rfl⟩
  |cons c a ih=>obtain⟨b,r⟩:=ih λc x=>d c (by simp[x]);obtain⟨y,z,rfl⟩:=d c aaV;exact⟨y::b,by simp only[a6Q,r];rfl⟩
 simp_all
abbrev wc:List R->Prop:=w7 [w6,rO,wb,wa]
def HQ (b:wc g): ∃a:dr,dj a.d.row/\g=a.C:=by obtain⟨_,_,⟨c,rfl⟩,⟨_,_,⟨d,_,rfl⟩,⟨_,_,h,⟨_,_,k,o,rfl⟩,rfl⟩,rfl⟩,rfl⟩:=b;obtain⟨p,rfl⟩:=a5R h;obtain⟨r,x,rfl⟩:=a5P k;cases o;exact⟨⟨⟨c,d,p,r⟩,.any,.any⟩,x,rfl⟩
def a5S:tO R.agg wc 4:=⟨λb a=>by obtain⟨c,_,rfl⟩:=HQ a;rfl,λb a=>rfl⟩
abbrev we:List R->Prop:=w8 R.agg wc
theorem a5T (p:we g): ∃d:List dr,(∀h∈d,dj h.d.row)/\d.length<=maxLen/\g= [.J (lN d) .any]:=by
 obtain⟨b,o,r,x⟩:=p;have: ∃a:List dr,a.length=b.length/\b.map R.agg=lN a/\ ∀h∈a,dj h.d.row:=by
  clear r x
  induction b with
  |nil=>exact⟨[],rfl,rfl,λc k=>by cases k⟩
  |cons c b ih=>obtain⟨a,y,z,D⟩:=ih λc k=>o c (by simp[k]);obtain⟨C,E,rfl⟩:=HQ (o c aaV);refine⟨C::a,by simp[y],by rw[a6Q,z];rfl,?_⟩;grind
 grind
variable{n b6:R}
theorem a5U (b:AL we n): ∃a:List dr,(∀c∈a,dj c.d.row)/\a.length<=9223372036854775807/\n= .J (lN a) .any:=by obtain⟨a,d,h,k⟩:=a5T b;grind[hm,maxLen,List.cons.inj]
def a5V:da Tryz.prog 5 w6:=da.byte aaZ
def HR:da Tryz.prog 9 rO:=da.str aaZ
def a5W:da Tryz.prog 2 (SInt .i64):=da.int aaZ
def a5X:da Tryz.prog 44 wa:=da.slice (e:=1) (by kernel_rfl:Tryz.prog.underlying 44=some (.slice 2)) aaZ aaU a5O a5W
def a5Y:da Tryz.prog 40 wb:=da.slice (e:=1) (by kernel_rfl:Tryz.prog.underlying 40=some (.slice 9)) aaZ aaU a5Q HR
def a5Z:da Tryz.prog 78 wc:=da.struct (r:= [w6,rO,wb,wa]) Tryz.underlying78 (by
 refine⟨by rfl,a5V,by rfl,HR,by rfl,a5Y,by rfl,a5X,(by show _= _;rfl)⟩)
def a6a:da Tryz.prog 22 we:=da.slice (e:=4) (by kernel_rfl:Tryz.prog.underlying 22=some (.slice 78)) aaZ aaU a5S a5Z
end Go.Proofs.YtcfpcblgmmeioaaGreat
namespace Go.Proofs.YtcfpcblgmmeioaaGreat.sweepPages
open Go
def jA:(Rows.sweepPagesRow.inPlace==Tryz.prog.inPlace 3)=true:=aaZ
def jB:(Rows.sweepPagesRow.unfollowed==Tryz.prog.unfollowed 3)=true:=aaZ
def jC:(Rows.sweepPagesRow.named==Tryz.prog.varsNamed 3)=true:=aaZ
def jD:(laidOutB Tryz.prog&&mapsRowed Tryz.prog&&Tryz.f3.params.all (Tryz.prog.readableRec ·)&&namedTie Tryz.prog Rows.sweepPagesRow.named Rows.sweepPagesSpec.vars&&(Tryz.prog.stops== [])&&(Tryz.prog.stopKnobs== []))=true:=aaZ
def td:(Rows.sweepPagesRow.lifted==Tryz.prog.liftsFinal)=true:=aaZ
def jF:(Tryz.prog.stopsHeard&&Tryz.prog.mayEnter&&(Tryz.prog.make==some Rows.sweepPagesRow.make)&&(Rows.sweepPagesRow.pinned==Rows.sweepPagesRow.pinnedBy))=true:=aaZ
def a6b:joinedFacts Tryz.prog 3 Tryz.f3 Rows.sweepPagesSpec Rows.sweepPagesRow=true:=by
 unfold joinedFacts;have d:=jA;have a:=jB;have h:=jC;have b:=jD;have k:=td;have c:=jF;simp only[a6B]at b c;obtain⟨⟨⟨⟨⟨o,p⟩,r⟩,x⟩,y⟩,z⟩:=b;obtain⟨⟨⟨C,D⟩,E⟩,F⟩:=c;have G:(Rows.sweepPagesRow.recurses==Tryz.prog.recurses 3)=true:=by have L:Rows.sweepPagesRow.unfollowed=Tryz.prog.unfollowed 3:=eq_of_beq a;unfold Program.recurses;rw[<-L];rfl
 rw[d,a,h,o,p,r,x,y,z,k,C,D,E,F,G];decide+kernel
end Go.Proofs.YtcfpcblgmmeioaaGreat.sweepPages
