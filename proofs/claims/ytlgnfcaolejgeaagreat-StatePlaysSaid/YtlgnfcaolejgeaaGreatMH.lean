import Derived.Test.YtlgnfcaolejgeaaGreatMG
import Derived.Test.YtlgnfcaolejgeaaGreatMF
import Derived.Test.YtlgnfcaolejgeaaGreatME
import Derived.Test.YtlgnfcaolejgeaaGreatMD
set_option linter.all false
set_option maxRecDepth 100000
namespace Go.Proofs.YtlgnfcaolejgeaaGreat
open Go Go.bz
def aC.kN (a:Nat):aC->Nat->Prop
 | .nil,_=>True
 | .node c _ d h,dep=>(∀b∈d.rows,cH (dep%a) b c<0)/\(∀b∈h.rows,cH (dep%a) c b<0)/\d.kN a (dep+1)/\h.kN a (dep+1)
def aC.ri {c:Nat}: ∀ {k:aC}{dep:Nat},k.c9 c->k.kN c dep->k.all.Pairwise (·≠ ·)
 | .nil,_,_,_=> .nil
 | .node y live D E,dep,b,⟨h1,r,z,C⟩=>by
  have o:=pL c (dep%c);rw[aC.all];refine a5W.2 ⟨a5W.2 ⟨aC.ri b.a z,aC.ri b.b C,λd a x h p=> ?_⟩,by cases live<;>simp,λd a x h p=> ?_⟩
  .subst p;exact o.yQ (b.a d (aC.gE a)).len b.r.len (h1 d (aC.gE a)) (r d (aC.gE h))
  .obtain rfl:x=y:=by cases live<;>simp at h;exact h
   subst p;rcases a5j.1 a with a|a
   .exact o.je _ b.r.len (h1 _ (aC.gE a))
   .exact o.je _ b.r.len (r _ (aC.gE a))
variable{Q:List (List Int)}{e i v O b8 j0:Nat}
theorem FJ (a:e<Q.length):Q=Q.take e++Q.getD e []::Q.drop (e+1):=by simp_all
theorem vc {h:Nat}: ∀(c:Nat) (a:List (List Int)) (dep:Nat),a.length<=c->(∀b∈a,b.length=h)->(fQ h c a dep).all.Perm a
 |0,a,dep,x,_=>by
  obtain rfl:a= []:=a4Z a9w;rfl
 |c+1,a,dep,x,p=>by
  rw[fQ];by_cases k:a= []
  .rw[if_pos k,k];rfl
  rw[if_neg k];have y:=a6c.2 k;have r:=(sX (e:=dep%h) p).1;have z:=r.length_eq;have hm:=λb d=>p b (r.mem_iff.1 d);generalize eb (dep%h) a=o at*;have C:=FJ (Q:=o) (e:=a.length/2) a9w;have D:=vc c (o.take (a.length/2)) (dep+1) (by rw[a4W];omega) λb d=>hm b (a5g d);have E:=vc c (o.drop (a.length/2+1)) (dep+1) (by rw[a5k];omega) λb d=>hm b (a5y d);rw[aC.all,if_pos rfl];grind
variable{a8:aC}
def zh (a:a8.c9 e):(hB e a8 i).all.Perm a8.all:=by
 unfold hB;split
 .rfl
 .split
  .exact vc _ _ _ (a5z _) λb c=>(a b (aC.gE c)).len
  .rfl
theorem zi {d:Nat}{b:List Int} (h:bL d b): ∀ {k:aC}{dep:Nat},k.c9 d->(cX d b k dep).2=true->(cX d b k dep).1.all.Perm (b::k.all)
 | .nil,dep,_,_=> .refl _
 | .node p live x y,dep,a,c=>by
  rw[cX]at c|-;by_cases o:p=b
  .simp only[if_pos o]at c|-;have r:live=false:=by simp_all
   refine(zh (aC.c9.mk a.r a.a a.b)).trans ?_;simp only[aC.all,if_pos,r,o];grind
  .by_cases c2:cH (dep%d) b p<0
   .simp only[if_neg o,if_pos c2]at c|-;refine(zh (aC.c9.mk a.r (pN h a.a) a.b)).trans ?_;exact((zi h a.a c).append_right _).append_right _
   .simp only[if_neg o,if_neg c2]at c|-;refine(zh (aC.c9.mk a.r a.a (pN h a.b))).trans ?_;refine(((zi h a.b c).append_left _).append_right _).trans ?_;exact a7t.append_right _
theorem zj {c:Nat}{b:List Int}: ∀ {d:aC}{dep:Nat},(cX c b d dep).2=false->b∈d.all
 | .nil,dep,a=>by rw[cX]at a;cases a
 | .node h live o p,dep,a=>by
  rw[cX]at a;simp only[aC.all,a5j];by_cases k:h=b;simp_all
  .by_cases c2:cH (dep%c) b h<0
   .simp only[if_neg k,if_pos c2]at a;exact .inl (.inl (zj a))
   .simp only[if_neg k,if_neg c2]at a;exact .inl (.inr (zj a))
theorem vd {d:Nat}{b:List Int}: ∀ {h:aC}{dep:Nat},(cj d b h dep).2=true->h.all.Perm (b::(cj d b h dep).1.all)
 | .nil,dep,a=>by rw[cj]at a;cases a
 | .node k live o p,dep,a=>by
  rw[cj]at a|-;by_cases c:k=b
  .simp only[if_pos c]at a|-;simp only[aC.all,if_pos a,c];grind
  .by_cases c2:cH (dep%d) b k<0
   .simp only[if_neg c,if_pos c2]at a|-;exact((vd a).append_right _).append_right _
   .simp only[if_neg c,if_neg c2]at a|-;refine(((vd a).append_left _).append_right _).trans ?_;exact a7t.append_right _
theorem zk {b:Nat}{d:List Int} (k:d.length=b): ∀ {o:aC}{dep:Nat},o.c9 b->o.kN b dep->(cj b d o dep).2=false->d∉o.all
 | .nil,dep,_,_,_=>λh=>by cases h
 | .node r live E F,dep,h,⟨h1,y,C,D⟩,c=>by
  have x:=pL b (dep%b);intro a;rw[cj]at c;simp only[aC.all,a5j]at a;by_cases p:r=d
  .simp only[if_pos p]at c;subst p;rcases a with (a|a)|a
   .exact x.je _ k (h1 _ (aC.gE a))
   .exact x.je _ k (y _ (aC.gE a))
   .rw[c]at a;simp at a
  .have z:d∉(if live=true then [r]else []):=λh=>by
    simp_all
   by_cases c2:cH (dep%b) d r<0
   .simp only[if_neg p,if_pos c2]at c;rcases a with (a|a)|a
    .exact zk k h.a C c a
    .exact x.yQ k h.r.len c2 (y _ (aC.gE a))
    .exact z a
   .simp only[if_neg p,if_neg c2]at c;rcases a with (a|a)|a
    .exact c2 (h1 _ (aC.gE a))
    .exact zk k h.b D c a
    .exact z a
theorem ve {a:Nat}: ∀(p:Nat) (c:List (List Int)) (dep:Nat),(∀b∈c,b.length=a)->c.Pairwise (·≠ ·)->(fQ a p c dep).kN a dep
 |0,_,_,_,_=>trivial
 |p+1,c,dep,z,D=>by
  rw[fQ];by_cases r:c= []
  .rw[if_pos r];trivial
  rw[if_neg r];have g:=a6c.2 r;obtain⟨x,E⟩:=sX (e:=dep%a) z;have i:=x.length_eq;have hm:=λb d=>z b (x.mem_iff.1 d);have y:(eb (dep%a) c).Pairwise (·≠ ·):=x.symm.pairwise D λk=>k.symm;have F:=pL a (dep%a);have C:(eb (dep%a) c).Pairwise (λG L=>cH (dep%a) G L<0):=by
   refine a7W ?_ (E.and y);intro h b o d j;rcases F.r9 h b (hm h o) (hm b d)with k|k|k
   .exact k
   .simp_all
   .omega
  generalize eb (dep%a) c=P at*;have S:=FJ (Q:=P) (e:=c.length/2) a9w;rw[S]at C y;obtain⟨l,T,V⟩:=a5W.1 C;obtain⟨W,m⟩:=a5D.1 T;obtain⟨e,f,_⟩:=a5W.1 y;refine⟨λh o=>V h (rh o) _ a9x,λh o=>W h (rh o),?_,?_⟩
  .exact ve p _ _ (λb d=>hm b (a5g d)) e
  .exact ve p _ _ (λb d=>hm b (a5y d)) (a5D.1 f).2
def zl (a:a8.c9 e) (b:a8.kN e i):(hB e a8 i).kN e i:=by
 unfold hB;split
 .trivial
 .split
  .exact ve _ _ _ (λc d=>(a c (aC.gE d)).len) (aC.ri a b)
  .exact b
theorem zm {c:Nat}{k:List Int} (h:bL c k): ∀ {o:aC}{dep:Nat},o.c9 c->o.kN c dep->(cX c k o dep).1.kN c dep
 | .nil,dep,_,_=>⟨λd b=>(by cases b),λd b=>(by cases b),trivial,trivial⟩
 | .node p live D E,dep,a,⟨h1,r,x,y⟩=>by
  have C:=pL c (dep%c);rw[cX];by_cases z:p=k
  .simp only[if_pos z];exact zl (aC.c9.mk a.r a.a a.b) ⟨h1,r,x,y⟩
  .by_cases c2:cH (dep%c) k p<0
   .simp only[if_neg z,if_pos c2];refine zl (aC.c9.mk a.r (pN h a.a) a.b) ⟨λd b=> ?_,r,zm h a.a x,y⟩;rcases ta b with rfl|b
    .exact c2
    .exact h1 d b
   .simp only[if_neg z,if_neg c2];refine zl (aC.c9.mk a.r a.a (pN h a.b)) ⟨h1,λd b=> ?_,x,zm h a.b y⟩;rcases ta b with rfl|b
    .rcases C.r9 d p h.len a.r.len with a|a|a
     .trivial
     .simp_all
     .exact a
    .exact r d b
def zn {a:Nat}{k:List Int}: ∀ {b:aC}{dep:Nat},b.kN a dep->(cj a k b dep).1.kN a dep
 | .nil,dep,_=>trivial
 | .node o live p r,dep,⟨h1,c,d,h⟩=>by
  rw[cj];split
  .trivial
  split
  .exact⟨by rw[tb];exact h1,c,zn d,h⟩
  .exact⟨h1,by rw[tb];exact c,d,zn h⟩
structure lA (d n:Nat) (t:aC):Prop where
 fh:t.c9 d
 vf:t.kN d 0
 cm:t.size<=n
theorem lA.nil {a n:Nat}:lA a n .nil:=⟨λc b=>(by cases b),trivial,a5C _⟩
variable{q b6:List Int}
def lA.ins (a:lA e i a8) (b:bL e q):lA e (i+1) (cX e q a8 0).1:=⟨pN b a.fh,zm b a.fh a.vf,by have:=pF e q a8 0;have:=a.cm;omega⟩
theorem lA.del (b:lA e i a8):lA e i (lx e q a8).1:=by
 have a:=tc (q:=q) (i:=0) b.fh;have c:=zn (k:=q) b.vf;have p:=pG e q a8 0;have r:=lv (cj e q a8 0).1;have x:=b.cm;unfold lx;split
 .refine⟨z7 _ _ _ λd h=>a d (aC.gE h),ve _ _ _ (λk o=>(a k (aC.gE o)).len) (aC.ri a c),?_⟩;grind[r1,cj]
 .exact⟨a,c,a9w⟩
def a1M (a:lA e i a8) (b:(cj e q a8 0).2=true):a8.all.Perm (q::(lx e q a8).1.all):=by
 have c:=tc (q:=q) (i:=0) a.fh;refine(vd b).trans (.cons _ ?_);unfold lx;split
 .exact(vc _ _ _ (a5z _) λd h=>(c d (aC.gE h)).len).symm
 .rfl
structure kd (c:U) (x:R) (b:List UInt8):Prop where
 one:x.cells= [x]
 len:ez x=some (.v (.int .i64 b.length))
 src: ∀a,c.sub a->kx a x b
variable{n b3:R}{f t e4:U}{w:List UInt8}
theorem kd.an (a:eC t f w n):kd f n w:=by obtain⟨h,b,k,c⟩:=a.src;simp only[a5f,a5K]at b;subst b;refine⟨?_,c,λo d=>eC.lY (a.mono d)⟩;rcases a.2 with ⟨_,rfl|rfl⟩|⟨_,_,_,_,rfl,_⟩<;>rfl
def kd.mono (a:kd f n w) (b:f.sub t):kd t n w:=⟨a.one,a.len,λd c=>a.src _ (U.ar b c)⟩
def FK (c:UInt8) (b:List UInt8) (d:R) (h:Nat) (a:U) (k:kd a d b) (y:b.length<=900000) (p:a h=some (.cells [d])):
  AC Tryz.prog 192 [.v (.int .u8 (c.toNat:Int)),.an h 1 1 1] a λr x=>eC a x (preB c [b]) r:=
 a0A c [(d,b)] h a p (λz o=>by rw[a5p]at o;subst o;exact .inr ⟨k.src _ U.a1,k.len⟩) (by simp[preB,chunk,cx];omega)
def a1N (b:List UInt8) (a:R) (c:U) (d:kd c a b) (p:b.length<=900000):
  AC Tryz.prog 124 [a] c λh r=>eC c r (preB 67 [b]) h:=by
 have k:=d.one;refine aM hm N1 ?_;refine eK (by simp[aS,k]) a9x λx y=> ?_;rw[show flat [a]= [a] by simp[flat,k]];have o:=U.ae (Y:= .cells [a]) (U.a1) y;refine aa ?_;refine eo (FK 67 b a x _ (d.mono o) p (U.ag _ _ _)) λh C z=> ?_;exact⟨_,U.a1,z.base o⟩
theorem td (b:w.length=32) (a:R):(cv w).cells.length=32/\putAt (List.replicate 32 a) 0 (cv w).cells=(cv w).cells/\(.agg ((cv w).cells.take 32):R)=cv w:=by grind[cv,R.cells,putAt,List.take_of_length_le]
def pO (a:List UInt8):List UInt8:=ff (preB 67 [a])
def a1O (a:List UInt8) (b:R) (c:U) (p:kd c b a) (r:a.length<=900000):
  AC Tryz.prog 65 [b] c λh x=>x=c/\h=cv (pO a):=by
 refine aM hm Lg ?_;refine bo λy k=> ?_;refine eo (a1N a b _ (p.mono (U.ae U.a1 k)) r) λh z d=> ?_;have o:=kd.an d;have C:=U.aI (d.sub _ _ (U.ag _ _ _));have D:=td (mc (preB 67 [a])) (.v (.int .u8 0));refine bc (F1 _ (by simp[preB,chunk,cx];omega) _ _ (o.src _ U.a1) o.len) ?_;exact⟨U.ar (U.ae U.a1 k) d.sub,rfl⟩
def a1P (b:List UInt8) (a:R) (c:U) (k:kd c a b) (y:b.length<=900000):
  AC Tryz.prog 177 [a] c λo z=>z=c/\o=cv (eT b):=by
 have p:=k.one;refine aM hm OL ?_;refine bo λF C=> ?_;refine eK (by simp[aS,p]) a9x λD E=> ?_;rw[show flat [a]= [a] by simp[flat,p]];have r:=U.ae (Y:= .cells (List.replicate 32 (.v (.int .u8 0)))) (U.a1) C;have d:=U.ae (Y:= .cells [a]) (U.a1) E;refine aa ?_;refine eo (FK 80 b a D _ (k.mono (U.ar r d)) y (U.ag _ _ _)) λo G h=> ?_;have x:=kd.an h;have L:=U.aI (h.sub _ _ (d _ _ (U.ag _ _ _)));have P:=td (mc (preB 80 [b])) (.v (.int .u8 0));refine bc (F1 _ (by simp[preB,chunk,cx];omega) _ _ (x.src _ U.a1) x.len) ?_;exact⟨U.ar (U.ar r d) h.sub,rfl⟩
def a1Q (a:List UInt8) (b:Own) (c:U) (z:a.length<=1000000000000):
  AC Tryz.prog 122 [.J (a.map ak) b] c λd h=>c.sub h/\ ∃k,d= .J ((preB 67 [a]).map ak) k:=by
 refine aM hm MX ?_;refine db U.a1 (by simp[aS,R.cells]) λo p r=> ?_;refine aa ?_;refine ai (CA 67 [(a,b)] o (by simp[preB,chunk,cx];omega) p) ?_;rintro _ C ⟨x,y,rfl⟩;refine aa ?_;exact⟨U.ar r.sub y.sub,x,rfl⟩
def a1R (a:List UInt8) (b:Own) (c:U) (r:a.length<=1000000000):
  AC Tryz.prog 64 [.J (a.map ak) b] c λh k=>k=c/\h=cv (pO a):=by
 refine aM hm Le ?_;refine bo λx o=> ?_;refine ai (a1Q a b _ a9w) ?_;rintro _ y ⟨d,p,rfl⟩;have z:=U.aI (d _ _ (U.ag _ _ _));have C:=td (mc (preB 67 [a])) (.v (.int .u8 0));refine aa ?_;refine bc (CE _ p (by simp[preB,chunk,cx];omega) _) ?_;exact⟨U.ar (U.ae U.a1 o) d,rfl⟩
theorem FL (c b:List Int) (p r:Own) (d:Nat) (k:U) (D:d<=1000000):
  AC Tryz.prog 41 [er c b p r,.v (.int .i64 (d:Int))] k λx y=>y=k/\x= .v (.bool (cO c b d)):=by
 have E:=bG (q:=c);have F:=bG (q:=b);have G:= @dK c;have L:= @dK b;refine aM hm KA ?_;refine bo λP S=> ?_
 repeat' first|refine aG (λ_=> ?_) λ_=> ?_|trivial
 all_goals try (rw[cO];exact aO)
 refine gJ [1,2] (λa:Nat=> [(5,.v (.int .i64 a))]) (λa=>a<=d/\ ∀h<a,decide (c.getD h 0<=b.getD h 0)=true) (λa=>d - a) 0 ⟨a9w,λh z=>by omega⟩ aR ?_;rintro a ⟨b,o⟩ T;refine aa ?_;refine aG (λC=> ?_) λC=> ?_
 .repeat' first|refine aG (λ_=> ?_) λ_=> ?_|trivial
  grind[cO,sd,decide_eq_false_iff_not,aO]
  .exact⟨a+1,⟨a9w,upto o (by simp only[decide_eq_true_eq];omega)⟩,rfl,a9w⟩
 .rw[cO,se λh z=>o h a9w];exact aO
def c5:List UInt8->List UInt8->Bool
 | _,[]=>false
 | [],_:: _=>true
 |a::c,b::d=>if a=b then c5 c d else decide (a<b)
theorem a1S: ∀b a:List UInt8,Op.bytesLess b a=c5 b a:=by
 intro b
 induction b with
 |nil=>intro a;cases a<;>simp[Op.bytesLess,c5]
 |cons c b ih=>
  intro a;cases a with
  |nil=>rfl
  |cons d a=>simp only[Op.bytesLess,c5,ih];split<;>simp_all
theorem vg (a:List UInt8):c5 a a=false:=by induction a<;>simp_all [c5]
theorem FM: ∀b a:List UInt8,c5 b a=false->c5 a b=false->b=a:=by
 intro b
 induction b with
 |nil=>intro a;cases a<;>simp[c5]
 |cons c b ih=>
  intro a;cases a with
  |nil=>simp[c5]
  |cons d a=>simp only[c5];grind
theorem vh: ∀c a b:List UInt8,c5 c a=true->c5 a b=true->c5 c b=true:=by
 intro c
 induction c with
 |nil=>intro a b;cases a<;>cases b<;>simp[c5]
 |cons d c ih=>
  intro a b;cases a with
  |nil=>simp[c5]
  |cons h a=>
   cases b with
   |nil=>simp[c5]
   |cons k b=>simp only[c5];grind
theorem vi (a b:List UInt8):ja .lss (bb a) (bb b)=some (.v (.bool (c5 a b)))/\ja .geq (bb a) (bb b)=some (.v (.bool (!c5 a b)))/\
  ja .leq (bb a) (bb b)=some (.v (.bool (c5 a b||decide (a=b))))/\ja .gtr (bb a) (bb b)=some (.v (.bool (!(c5 a b||decide (a=b))))):=by
 grind[decide,bb,rW,bn,q2,toList_mk,a1S]
variable{g B e0:List R}{e7:aL}
def en.at_ (C:en e7 g): ∃D E,aX false 1 (g.drop 36)= .v (.int .i64 e7.bM.live)/\aX false 1 (g.drop 38)= .J (ad e7.bM.key) D/\aX false 1 (g.drop 73)= .v (.int .i64 e7.cq.live)/\aX false 1 (g.drop 74)= .v (.int .i64 e7.cq.size)/\aX false 1 (g.drop 75)= .J (ad e7.cq.key) E:=by
 obtain⟨⟨y,o,p,c,d,h,b,rfl⟩,⟨F,_⟩,⟨G,_⟩,_⟩:=C;have k:=aW (M:=o) (e6:=p) (h4:=c) F;have r:=aW (M:=d) (e6:=h) (h4:=b) G;have z: ∀a,a<=37->(bb e7.name:: .J (bE e7.aD) y::(ab e7.bM o p c++ab e7.cq d h b)).drop (a+2)=(ab e7.bM o p c).drop a++ab e7.cq d h b:=λa L=>by
  simp only[a6A];rw[a6x (by have:=k.len;omega)]
 have x: ∀a,(bb e7.name:: .J (bE e7.aD) y::(ab e7.bM o p c++ab e7.cq d h b)).drop (a+37+2)=(ab e7.cq d h b).drop a:=λa=>by
  simp only[a6A];rw[a6t,a6p (by rw[k.len];omega),k.len,a5m];congr 1
 refine⟨c,b,?_,?_,?_,?_,?_⟩
 .rw[z 34 a9w,k.d34];rfl
 .rw[z 36 a9w,k.d36];rfl
 .rw[x 34,r.d34];rfl
 .rw[x 35,r.d35];rfl
 .rw[x 36,r.d36];rfl
def fS (a:aL):Bool:=eu ⟨1,a.name,a.aD,[]⟩&&(fA (a.aD.length+1) a.bM&&(fA (a.aD.length+1) a.cq&&(decide (a.bM.live=a.cq.live)&&(decide (a.bM.key.length=0)&&
 (decide (a.cq=az)||(decide (a.cq.key.length=a.aD.length+1)&&decide (a.cq.size=a.cq.live)))))))
structure aL.Fit (t:aL):Prop where
 n:t.name.length<=1000000
 c:t.aD.length<=1000000
 cs: ∀c∈t.aD,c.length<=1000000
def te (a:aL) (b:List R) (c:en a b) (d:U):AC Tryz.prog 39 [.agg b] d λh k=>k=d/\h= .v (.int .i64 ((a.aD.length+1:Nat):Int)):=by obtain⟨o,p,r,x,y,z,C,D,E,F,G,L,P⟩:=c.all;have S:=hi (a:=a.aD);have T:=c.c;refine aM hm Kw ?_;refine bo λV W=> ?_;trivial
theorem rj (a:aL) (c:List R) (b:en a c) (o:a.Fit) (d:U):AC Tryz.prog 147 [.agg c] d λp r=>r=d/\p= .v (.bool (fS a)):=by
 obtain⟨W,e,f,x,y,z,C,D,E,F,g,i,j⟩:=b.all;obtain⟨l,m,n,q,s,t,u⟩:=b.at_;have v:=hi (a:=a.aD);have w:=bG (q:=a.bM.key);have A:=bG (q:=a.cq.key);obtain⟨G,L,P⟩:=o;have B: ∀h,fA h az=true:=λh=>by rfl
 refine aM hm NK ?_;refine bo λk H=> ?_;refine bc (te a c b _) ?_;refine bc (EP ⟨⟨1,a.name,a.aD,[]⟩,x,.nil⟩ ⟨G,L,P,a9x⟩ _) ?_;have S:=xt a.bM y z C (a.aD.length+1) (d.set k (.cells c)) a9w b.k.1 b.k.2;have T:=xt a.cq D E F (a.aD.length+1) (d.set k (.cells c)) a9w b.z.1 b.z.2;refine aG (λV=> ?_) λV=> ?_
 .rw[fS];exact aO
 refine bc S ?_
 repeat' first|refine aG (λ_=> ?_) λ_=> ?_|trivial
 all_goals try (rw[fS];exact aO)
 .refine bc T ?_
  repeat' first|refine aG (λ_=> ?_) λ_=> ?_|trivial
  all_goals try (rw[fS];exact aO)
  all_goals refine bc (nj _ _ _ _ _ b.z.1 b.z.2) ?_
  all_goals repeat' first|refine aG (λ_=> ?_) λ_=> ?_|trivial
  all_goals grind[fS,aO]
def cw (a:List aL):Bool:=(List.range a.length).all (λb=>fS (a.getD b default)&&(decide (b=0)||c5 (a.getD (b - 1) default).name (a.getD b default).name))&&decide (a.length<=8)
theorem nE (a:List aL) (E:List R) (e:Own) (y:aA dw a E) (f: ∀d∈a,d.Fit) (s:a.length<=1000000) (k:U):AC Tryz.prog 102 [.J E e] k λg z=>z=k/\g= .v (.bool (cw a)):=by
 have t:=y.len;refine aM hm Mm ?_;refine ch [0,5,6] (λb:Nat=> [(7,.v (.int .i64 b))]) (λb z=>k.sub z/\b<=a.length/\ ∀c<b,(fS (a.getD c default)&&(decide (c=0)||c5 (a.getD (c - 1) default).name (a.getD c default).name))=true) (λb=>a.length - b) 0 ⟨⟨U.a1,a9w,λc C=>by omega⟩,aR⟩ ?_;rintro b F ⟨G,u,i⟩ v;refine aa ?_;refine aG (λj=> ?_) λj=> ?_
 .have L:a[b]? =some (a.getD b default):=by simp_all
  obtain⟨_,w,T,rfl,o⟩:=y.get L;have P:=f _ (a5a L);generalize l:a.getD b default=d at*;have A:=iZ (n:= .agg T) o.all.1;obtain⟨B,H,I,K,M,N,O,Q,X,Y,Z,j9,k0⟩:=o.all;obtain⟨p,r⟩: ∃p,p=(fS d&&(decide (b=0)||c5 (a.getD (b - 1) default).name d.name)):=⟨_,rfl⟩;have k1:p=false->cw a=false:=λC=>by
   grind[cw,sd]
  have k2:p=true-> ∃x,(x<=a.length/\ ∀c<x,(fS (a.getD c default)&&(decide (c=0)||c5 (a.getD (c - 1) default).name (a.getD c default).name))=true)/\R.v (.int .i64 ((b)+1))= .v (.int .i64 (x))/\a.length - x<a.length - b:=λC=>
   ⟨b+1,⟨a9w,upto i (by rw[l,<-r];exact C)⟩,rfl,a9w⟩
  have k3: ∀h S,F h=none->k.sub (F.set h S):=λh S D=>U.ae G (U.bI G D);by_cases V:b=0
  .subst V;simp only[decide_true,Bool.true_or,a9j]at r;subst r;refine aa ?_;refine bo λh D=> ?_;refine bc (rj d T o P _) ?_
   repeat' first|refine aG (λ_=> ?_) λ_=> ?_|trivial
   simp_all
  .have m:a[b - 1]? =some (a.getD (b - 1) default):=by grind
   obtain⟨_,k4,n,rfl,W⟩:=y.get m;generalize a.getD (b - 1) default=q at*;have k5:=iZ (n:= .agg n) W.all.1;obtain⟨k6,k7,k8,_⟩:=W.all;have k9:(b) - 1=((b - 1:Nat):Int):=a9w;have l0:=(vi q.name d.name).2.1;simp only[decide_eq_false V,a9k]at r;refine aa ?_;refine bo λh D=> ?_;refine bc (rj d T o P _) ?_
   repeat' first|refine aG (λ_=> ?_) λ_=> ?_|trivial
   all_goals simp_all
 grind[cw,se,aO]
def nF (a b:List UInt8):Int:=if c5 a b=true then -1 else if a=b then 0 else 1
def FN (b:List UInt8) (a:U):AC Tryz.prog 334 [bb b] a λc d=>d=a/\c= .v (.bool false):=by have k:=λh v=> @wX h v;refine aM hm Sn ?_;trivial
theorem a1T (a b:List UInt8) (c:U):AC Tryz.prog 297 [bb a,bb b] c λh k=>k=c/\h= .v (.int .i64 (nF a b)):=by
 obtain⟨p,r,x,y⟩:=vi a b;refine aM hm RH ?_;refine bc (FN a c) ?_;refine bc (FN b c) ?_;refine aG (λd=> ?_) λd=> ?_
 .rw[nF,if_pos d]
 .refine aG (λo=> ?_) λo=> ?_;simp_all [nF];simp_all [nF]
def a1U (a:aL) (b:List R) (d:en a b) (c:U):AC Tryz.prog 227 [.agg b] c λh k=>k=c/\h=bb a.name:=by obtain⟨o,p,r,_⟩:=d.all;refine aM hm Q6 ?_;refine bo λx y=> ?_;trivial
def FO (a:aL) (b:List R) (h:en a b) (k:List UInt8) (c:U) (d:Nat) (o:c.read d=some [.bF 227 [] []]):AC Tryz.prog 296 [.agg b,bb k,.ptr d 0] c λp r=>r=c/\p= .v (.int .i64 (nF a.name k)):=by
 obtain⟨z,C,_⟩:=h.all;refine aM hm RF ?_;refine aN λx y=> ?_;have D:d≠x:=by rintro rfl;simp[U.read,y]at o
 refine aa ?_;refine lZ (a1U a b h _) ?_;refine bc (a1T _ _ _) ?_;trivial
def Place (a:List aL) (d:List UInt8) (c:Nat):Prop:=c<=a.length/\(∀b<c,c5 (a.getD b default).name d=true)/\ ∀b<a.length,c<=b->c5 (a.getD b default).name d=false
theorem FP {a:List UInt8}:nF w a<0↔c5 w a=true:=by grind[nF]
theorem a1V {a:List UInt8}:nF w a=0↔w=a:=by
 unfold nF;split
 .rename_i b;simp;rintro rfl;rw[vg]at b;cases b
 .simp
theorem a1W (c:List aL) (y:List R) (V:Own) (d:List UInt8) (G:aA dw c y) (u:c.length<=1000000) (W: ∀a b,a<b->b<c.length->c5 (c.getD a default).name (c.getD b default).name=true) (p:U) (r:Nat) (L:p.read r=some [.bF 227 [] []]):
  AC Tryz.prog 295 [.J y V,bb d,.bF 296 [] [.ptr r 0]] p λe f=>f=p/\ ∃a,Place c d a/\e= .aK [.v (.int .i64 (a:Int)),.v (.bool (decide (a<c.length)&&decide ((c.getD a default).name=d)))]:=by
 have v:=G.len;have el: ∀a,a<c.length-> ∃T,y[a]? =some (.agg T)/\en (c.getD a default) T/\ey 76 (some (.agg T))=some (.bV T)/\T.length=76/\T.take 76=T:=λa z=>by
  obtain⟨_,g,T,rfl,k⟩:=G.get (i:=a) (x:=c.getD a default) (by simp_all);exact⟨T,g,k,iZ k.all.1,k.all.1,k.all.2.1⟩
 have i: ∀a,a<c.length->c5 (c.getD a default).name d=true-> ∀b,b<a+1->c5 (c.getD b default).name d=true:=λa z o b P=>by
  rcases Nat.lt_or_eq_of_le (Nat.le_of_lt_succ P)with C|rfl
  .exact vh _ _ _ (W b a C z) o
  .exact o
 have j: ∀a,a<c.length->c5 (c.getD a default).name d=false-> ∀b,b<c.length->a<=b->c5 (c.getD b default).name d=false:=λa z o b P w=>by
  grind
 refine aM hm RD ?_;refine gJ [0,1,2,8] (λh:Nat×Nat=> [(9,.v (.int .i64 h.1)),(10,.v (.int .i64 h.2))]) (λh=>h.1<=h.2/\h.2<=c.length/\(∀b<h.1,c5 (c.getD b default).name d=true)/\ ∀b<c.length,h.2<=b->c5 (c.getD b default).name d=false) (λh=>h.2 - h.1) (0,c.length) ⟨a9x,a9x,λb o=>by simp at o,λb o x=>by simp at x;omega⟩ aR ?_;rintro⟨a,b⟩ ⟨C,x,D,E⟩ A
 dsimp only at C x D E|-
 have B:bn .shr (.int .u64 ((a)+(b))) (.int .u64 1)=some (.int .u64 (((a+b)/2:Nat))):=by rw[show(a)+(b)=((a+b:Nat):Int) by omega,rY _ _ _ a9w a9w];rfl
 by_cases H:(a:Int)<b
 .obtain⟨T,l,k,m,n,q⟩:=el ((a+b)/2) a9w;have s:=i ((a+b)/2) a9w;have t:=j ((a+b)/2) a9w;generalize I:(a+b)/2=S at*;refine aa ?_;refine lZ (FO _ T k d p r L) ?_;refine aG (λF=> ?_) λF=> ?_
  .exact⟨(S+1,b),⟨by simp only;omega,by simp only;omega,s (FP.1 F),E⟩,⟨rfl,rfl⟩,by simp only;omega⟩
  .exact⟨(a,S),⟨by simp only;omega,by simp only;omega,D,t (by simpa[FP] using F)⟩,⟨rfl,rfl⟩,by simp only;omega⟩
 .obtain rfl:a=b:=a9w;have K:Place c d a:=⟨x,D,E⟩;by_cases c2:(a:Int)<c.length
  .obtain⟨T,l,k,m,n,q⟩:=el a a9w;refine aa ?_;refine lZ (FO _ T k d p r L) ?_;grind[a1V]
  .refine aa ?_;grind
def a1X (b:List aL) (d:List R) (x:Own) (c:List UInt8) (y:aA dw b d) (z:b.length<=1000000) (C: ∀a h,a<h->h<b.length->c5 (b.getD a default).name (b.getD h default).name=true) (k:U):
  AC Tryz.prog 148 [.J d x,bb c] k λo p=>p=k/\ ∃a,Place b c a/\o= .aK [.v (.int .i64 (a:Int)),.v (.bool (decide (a<b.length)&&decide ((b.getD a default).name=c)))]:=by
 refine aM hm NM ?_;refine ai (a7:=λo p=>p=k/\ ∃a,Place b c a/\o= .aK [.v (.int .i64 (a)),.v (.bool (decide (a<b.length)&&decide ((b.getD a default).name=c)))]) ?_ ?_
 .refine aM hm Q4 ?_;refine bo λD E=> ?_;refine ai (a1W b d x c y z C _ D (U.BA)) ?_;rintro _ _ ⟨rfl,a,r,rfl⟩;refine aa ?_;exact⟨a,r,rfl⟩
 .rintro _ _ ⟨rfl,a,r,rfl⟩;refine aa ?_;exact⟨a,r,rfl⟩
abbrev eP:List R:=bb []:: .J [] .nil::(ab az .nil .nil .nil++ab az .nil .nil .nil)
def jq:([R.v (.string ⟨#[]⟩)]++ [R.J [] .nil]++List.replicate 32 (R.v (.int .u8 0))++ [R.J [] .nil,.J [] .nil]++ [R.v (.int .i64 0),.v (.int .i64 0)]++ [R.J [] .nil]++List.replicate 32 (R.v (.int .u8 0))++ [R.J [] .nil,.J [] .nil]++ [R.v (.int .i64 0),.v (.int .i64 0)]++ [R.J [] .nil])=eP:=by have:=cn;rfl
def gd:en ⟨[],[],az,az⟩ eP:=⟨⟨.nil,_,_,_,_,_,_,rfl⟩,⟨bj,mf⟩,⟨bj,mf⟩,a9x⟩
theorem nG (a:en e7 g):g.length=76/\g.take 76=g/\putAt eP 0 g=g/\(eP).length=76:=by have b:=a.all.1;have c:=gd.all.1;grind[rZ]
theorem FQ {c:Type}{y:c}{d:c->Bool}: ∀ {b:List c}{h:Nat}{a:c},b[h]? =some a->d a=true->(∀o<h,d (b.getD o y)=false)->b.find? d=some a
 | [],h,a,k,_,_=>by simp at k
 |p::b,0,a,k,r,_=>by simp_all
 |p::b,h+1,a,k,r,x=>by
  have z:d p=false:=x 0 a9w;rw[List.find?_cons,z];exact FQ (by trivial) r λo k=>x (o+1) a9w
variable{b0:Type}
theorem a1Y {c:b0}{b:b0->Bool}{a:List b0} (k: ∀d<a.length,b (a.getD d c)=false):a.find? b=none:=by rw[List.find?_eq_none];intro o h;obtain⟨p,r,rfl⟩:=a5G h;simp_all
def Found (c:List aL) (d:List UInt8) (b:R):Prop:=match c.find? (λa=>decide (a.name=d))with
 |some a=> ∃T,en a T/\b= .aK [.agg T,.v (.bool true)]
 |none=>b= .aK [.agg eP,.v (.bool false)]
theorem find_spec (b:List aL) (C:List R) (P:Own) (o:List UInt8) (D:aA dw b C) (m:b.length<=1000000) (c:U):
  AC Tryz.prog 37 [.J C P,bb o] c λS p=>p=c/\Found b o S:=by
 have n:=D.len;have q:=λV=> @qv V o;have s:=jq;refine aM hm Ks ?_;refine bo λh W=> ?_;rw[jq];have r:c.sub (c.set h (.cells eP)):=U.ae U.a1 W;have E:(c.set h (.cells eP)) h=some (.cells eP):=U.ag _ _ _;generalize c.set h (.cells eP)=e at*;obtain⟨_,_,_,t⟩:=nG gd;have u:=(nG gd).2.2.1;have v:=gd.all.2.1;refine ch [1,4,8,9] (λa:Nat=> [(10,.v (.int .i64 a))]) (λa p=>e.sub p/\a<=b.length/\ ∀d<a,(b.getD d default).name≠o) (λa=>b.length - a) 0 ⟨⟨U.a1,a9w,λd w=>by omega⟩,aR⟩ ?_;rintro a A ⟨k,B,x⟩ H;have I:=U.aI (k _ _ E);refine aa ?_;refine aG (λf=> ?_) λf=> ?_
 .have F:b[a]? =some (b.getD a default):=by simp_all
  obtain⟨_,K,T,rfl,G⟩:=D.get F;generalize g:b.getD a default=M at*;obtain⟨i,N,O,_⟩:=nG G;have Q:=G.all.2.2.1;have X:=iZ (n:= .agg T) i;refine aa ?_;refine aN λj y=> ?_;have l:h≠j:=by rintro rfl;rw[k _ _ E]at y;cases y
  have Y:=a5c l;refine aa ?_;refine aG (λz=> ?_) λz=> ?_
  .refine⟨U.ae (U.ar r k) (U.bI (U.ar r k) y),?_⟩;rw[Found,FQ F (by simp[z]) λd L=>by simpa using x d L];simp_all
  .exact⟨a+1,⟨a9w,upto x (by rw[g];exact z)⟩,rfl,a9w⟩
 .refine⟨U.ar r k,?_⟩;rw[Found,a1Y λd L=>by simpa using x d a9w]
theorem dw.cells {b:aL}{a:R} (c:dw b a):a.cells.length=76:=by obtain⟨T,rfl,d⟩:=c;exact d.all.1
theorem zo (o:List aL) (a:List R) (c:Own) (b:U) (p:aA dw o a) (F:o.length<=1000):
  AC Tryz.prog 45 [.J a c] b λr d=>av b d 76 (flat a) r:=by
 have G:=p.len;refine mU λL=> ?_;have y:c= .nil->a= []:=λh=>by subst h;simp_all
 have x:=p.cells λ_ _=>dw.cells;have P:=da x;refine bd hm KG a9x ?_;simp -dsimp -implicitDefEqProofs (disch:=first|omega|assumption|(simp only[bk,Nat.reduceAdd];try omega)) only[go_sem,simprocAttr,↓o9];refine oa (λk=>by rw[y k]) (λk=> ?_) ?_
 .have z:a= []:=by trivial
  subst z;refine aE @a5O ?_;exact⟨b,U.a1,av.nil U.a1⟩
 .refine aE @o3 ?_;have C:bN b 76 (.J a c)=some (a.length,flat a):=by have D:=a5l.2 λh E=>decide_eq_true (x h E);simp only[bN,D,if_true]
  refine fj (av.zero (U.a1)) a9w C a9w (by simp only[a5d];omega) (by simp only[a5d];omega) λr d k=> ?_;refine eA ?_;exact⟨d,U.a1,by trivial⟩
theorem a1Z (t k:U) (h:List R) (f:R) (y:av t k 76 h f) (G:Nat) (L:h.length=G*76) (a:Nat) (l9:a<=G) (n0:G<=1000) (o:List R) (u:o.length=76) (z:Nat) (v:t z=some (.cells o)):
  AC Tryz.prog 149 [f,.v (.int .i64 (a:Int)),.an z 1 1 76] k λk4 P=>av t P 76 (h.take (a*76)++(o++h.drop (a*76))) k4:=by
 have S:=y.1 _ _ v;have g:((1:Nat):Int)=1:=rfl;have w: ∀P:U,P z=some (.cells o)->bN P 76 (.an z 1 1 76)=some (1,o):=λP y=>by
  simp_all [bN,U.af,a4U]
 by_cases c1:a=G
 .subst c1;obtain⟨e,E,wl⟩: ∃e,cg 76 f (some (.v (.int .i64 (a:Int)))) none none=some e/\ez f=some (.v (.int .i64 (a:Int))):=by
   rcases y.2 with ⟨i,rfl|rfl⟩|⟨c,b,d,r,rfl,j,C,l,m,k5,A,X⟩
   .rw[i]at L;obtain rfl:a=0:=by rw[a5d]at L;omega
    exact⟨_,Wo,rfl⟩
   .rw[i]at L;obtain rfl:a=0:=by rw[a5d]at L;omega
    exact⟨_,Wn,rfl⟩
   .obtain rfl:b=a:=a9w;obtain⟨e,E,_⟩:=ov (i:=76) (j0:=c) (e2:= .i64) a9w A;exact⟨e,E,rfl⟩
  refine bd hm Bo a9x ?_;simp -dsimp -implicitDefEqProofs (disch:=first|omega|assumption|(simp only[bk,Nat.reduceAdd];try omega)) only[go_sem,simprocAttr,↓eL,E,wl,g];refine fj y a9w (w k S) a9w a9w a9w λn1 P n2=> ?_;refine Cl ?_;grind[U.a1,List.take_of_length_le,List.drop_eq_nil_of_le]
 have n3:a<G:=a9w;obtain⟨c,b,d,r,rfl,j,C,l,m,k5,A,X⟩:=y.an (λi=>by rw[i]at L;simp at L;omega);obtain rfl:b=G:=a9w;have Y:c≠z:=by rintro rfl;rw[j]at v;cases v
 have B: ¬(a)=(b:Int):=a9w;refine bd hm Bo a9x ?_;obtain⟨e,E,_,Z⟩:=ov (i:=76) (j0:=c) (e2:= .i64) a9w A;have n4:=Z k r h C a9w m;have j9:(h.drop (a*76)).length=(b - a)*76:=by rw[a5k];omega
 have k6:r.take (a*76)=h.take (a*76):=by grind
 by_cases c2:(d)<(b:Int)+1
 .have n:cg 76 (.an c b d 76) none (some (.v (.int .i64 (a)))) none=some (.an c a d 76):=hM a9w;have k0:(b)+1 -(a)=((b+1 - a:Nat):Int):=a9w;refine dA (bs @E @B @g @c2 @n @k0) ?_;refine x2 C l a9w a9w a9w λp D k7 q s k8 k1=> ?_;have k9:a+(b+1 - a)=b+1:=a9w;rw[k9]at s k1|-;generalize l0:List.replicate (b+1 - a) _=k2;have l1:k2.flatten.length=(b+1 - a)*76:=by rw[<-l0,kV];rfl
  have l2:p≠c:=by rintro rfl;rw[q]at C;cases C
  have l3:p≠z:=by rintro rfl;rw[q]at S;cases S
  obtain⟨F,k3⟩: ∃F,F=r.take (a*76)++k2.flatten++k7:=⟨_,rfl⟩;have l4:F.length=D*76:=by rw[k3,a4V,a4V,l1,a4W,k1];omega
  have l5:F.take (a*76)=h.take (a*76):=by simp_all
  rw[<-k3];have H:cg 76 (.an p (b+1) D 76) (some (.v (.int .i64 (a)))) none none=some (.bA p (a*76) (b+1 - a) (D - a) 76):=gl a9w s a9w;have I:cg 76 (.an p (b+1) D 76) (some (.v (.int .i64 ((a)+1)))) none none=some (.bA p (a*76+76) (b - a) (D -(a+1)) 76):=by have:=gl (i:=76) (b8:=p) (e:=a+1) (e2:= .i64) a9w s a9w;grind
  have K:(k.set p (.cells F)) z=some (.cells o):=by rw[U.ao _ _ (a5c l3)];exact S
  have T:=hq (O:=a*76) (j0:=D - a) (i:=b+1 - a) (w _ K) (U.ag k p (.cells F)) a9w;have M:o.take ((b+1 - a)*76)=o:=a4U a9w;rw[M]at T;obtain⟨x,V⟩: ∃x,x=putAt F (a*76) o:=⟨_,rfl⟩;have N:x.length=D*76:=by rw[V,eJ _ _ _ a9w,l4]
  rw[<-V]at T;have l6:(k.set p (.cells x)) c=some (.cells r):=by rw[U.ao _ _ (a5c l2)];exact C
  have O:=Z _ r h l6 a9w m;have W:=hq (O:=a*76+76) (j0:=D -(a+1)) (i:=b - a) O (U.ag k p (.cells x)) a9w;have Q:(h.drop (a*76)).take ((b - a)*76)=h.drop (a*76):=a4U a9w;rw[Q]at W;refine dA (gj @E @B @g @c2 @n @k0 @H @I @T @W @U.set_set) ?_;refine⟨_,U.a1,U.ae y.1 (U.bI y.1 q),.inr ⟨p,b+1,D,_,rfl,U.bI y.1 q,U.ag _ _ _,?_,?_,?_,s,k8⟩⟩
  .rw[eJ _ _ _ a9w,N]
  .have:=(px l5 u j9 a9w).2;rw[show(b+1)*76=a*76+76+(b - a)*76 by omega,V];exact this
  grind
 .have n:cg 76 (.an c b d 76) none (some (.v (.int .i64 ((b)+1)))) none=some (.an c (b+1) d 76):=by rw[show(b)+1=((b+1:Nat):Int) by omega];exact hM a9w
  have H:cg 76 (.an c (b+1) d 76) (some (.v (.int .i64 (a)))) none none=some (.bA c (a*76) (b+1 - a) (d - a) 76):=gl a9w a9w a9w;have I:cg 76 (.an c (b+1) d 76) (some (.v (.int .i64 ((a)+1)))) none none=some (.bA c (a*76+76) (b - a) (d -(a+1)) 76):=by have:=gl (i:=76) (b8:=c) (v:=b+1) (O:=d) (e:=a+1) (e2:= .i64) a9w a9w a9w;grind
  have l7:r≠ []:=by rintro rfl;simp at l;omega
  have l8:kU (.an z 1 1 76) (.bA c (a*76+76) (b - a) (d -(a+1)) 76) k=some (.v (.bool false)):=x1 rfl rfl (a5c Y) (qy S (by rintro rfl;simp at u)) (qy C l7);have O:bN k 76 (.bA c (a*76) (b+1 - a) (d - a) 76)=some (b+1 - a,(r.drop (a*76)).take ((b+1 - a)*76)):=by simp only[bN,U.af C];grind
  have W:=hq (O:=a*76+76) (j0:=d -(a+1)) (i:=b - a) O C a9w;have Q:((r.drop (a*76)).take ((b+1 - a)*76)).take ((b - a)*76)=h.drop (a*76):=by rw[a6i,<-m,a6m];congr 1;omega
  rw[Q]at W;obtain⟨x,V⟩: ∃x,x=putAt r (a*76+76) (h.drop (a*76)):=⟨_,rfl⟩;rw[<-V]at W;have N:x.length=r.length:=by rw[V,eJ _ _ _ a9w]
  have K:(k.set c (.cells x)) z=some (.cells o):=by rw[U.ao _ _ (a5c Y)];exact S
  have T:=hq (O:=a*76) (j0:=d - a) (i:=b+1 - a) (w _ K) (U.ag k c (.cells x)) a9w;have M:o.take ((b+1 - a)*76)=o:=a4U a9w;rw[M]at T;refine dA (gj @E @B @g @c2 @n @H @I @l8 @W @T @U.set_set) ?_;refine⟨_,U.a1,U.ae y.1 j,.inr ⟨c,b+1,d,_,rfl,j,U.ag _ _ _,?_,?_,?_,a9w,X⟩⟩
  .rw[eJ _ _ _ a9w,N,l]
  .have:=(px k6 u j9 a9w).1;grind
  grind
variable{e1:List aL}
theorem a2a (c:aA dw e1 g): ∀a∈g,∃b,a= .agg b/\b.length=76:=λa d=>by
 obtain⟨k,_,T,rfl,h⟩:=c.mem d;exact⟨T,rfl,h.all.1⟩
theorem av.a2b (b:av f t 76 (flat g) n) (c:aA dw e1 g): ∃a,View t n a (.J g .any)/\f.sub a:=by obtain⟨h,a,d,k,o⟩:=View.dJ b;rw[da (c.cells λ_ _=>dw.cells)]at d;grind[xL,a2a]
def cY (a:List aL) (b:List UInt8):Nat:=(a.takeWhile λc=>c5 c.name b).length
def FR: ∀ {c:List aL}{b:List UInt8}{d:Nat},Place c b d->d=cY c b
 | [],b,d,a=>by have:=a.1;simpa[cY] using this
 |o::c,b,0,a=>by
  have:=a.2.2 0 a9x a9w;simp only[a5B]at this;simp[cY,this]
 |o::c,b,d+1,a=>by
  have k:=a.2.1 0 a9w;simp only[a5B]at k;have:=FR ⟨by have:=a.1;simpa using this,λh p=>by have:=a.2.1 (h+1) a9w;trivial,λh p r=>by have:=a.2.2 (h+1) a9y a9w;trivial⟩;simp only[cY,a6n,k,if_true,a4Y];rw[this];rfl
def gF (a:List aL) (b:List UInt8):Bool:=decide (cY a b<a.length)&&decide ((a.getD (cY a b) default).name=b)
theorem zp {c:List aL} (d:cw c=true): ∀b a,b<a->a<c.length->c5 (c.getD b default).name (c.getD a default).name=true
 |b,0,h1,_=>by omega
 |b,a+1,h1,p=>by
  have h:=d;simp only[cw,a4X,a5l,a6l,a6E,decide_eq_true_eq]at h;have k:=(h.1 (a+1) p).2.resolve_left a9w;rw[Nat.add_sub_cancel]at k;rcases a9u b a with o|o
  .exact vh _ _ _ (zp d b a o a9w) k
  grind
def zq (a:List aL) (c:List R) (h:Own) (b:List UInt8) (r:aA dw a c) (k:cw a=true) (d:U):
  AC Tryz.prog 148 [.J c h,bb b] d λo p=>p=d/\o= .aK [.v (.int .i64 (cY a b:Int)),.v (.bool (gF a b))]:=by
 have z:a.length<=8:=by simp only[cw,a4X,decide_eq_true_eq]at k;omega
 refine(a1X a c h b r a9w (zp k) d).mono λo p x=> ?_;obtain⟨C,D,y,rfl⟩:=x;obtain rfl:=FR y;trivial
def vj (d:Except Int (List aL)) (a:R):Prop:=
 match d with
 | .error b=>b≠0/\a= .aK [.J [] .nil,.v (.int .i64 b)]
 | .ok h=> ∃c,aA dw h c/\a= .aK [.J c .any,.v (.int .i64 0)]
def ke (a:List aL) (b:aL):Except Int (List aL):=
 if(cw a&&fS b)=true then(if gF a b.name=true then .error 4 else if 8<=a.length then .error 10 else .ok (a.take (cY a b.name)++b::a.drop (cY a b.name)))else .error 1
def kf (a:List aL) (b:aL):Except Int (List aL):=
 if(cw a&&fS b)=true then(if gF a b.name=true then .ok (a.set (cY a b.name) b)else .error 3)else .error 1
def tf (a b:U) (o:Except Int (List aL)) (c:R):Prop:=
 match o with
 | .error d=>a.sub b/\d≠0/\c= .aK [.J [] .nil,.v (.int .i64 d)]
 | .ok p=> ∃h k,aA dw p k/\av a b 76 (flat k) h/\c= .aK [h,.v (.int .i64 0)]
def tf.zr {a:Except Int (List aL)} (b:tf f t a n): ∃c d,View t n d c/\f.sub d/\vj a c:=by
 cases a with
 |error x=>exact⟨_,_,View.refl,b.1,b.2⟩
 |ok y=>obtain⟨z,k,h,o,rfl⟩:=b;obtain⟨C,p,r⟩:=av.a2b o h;exact⟨_,_,View.aK (a:= []) p,r,k,h,rfl⟩
def a2c (a:List aL) (b:List UInt8):cY a b<=a.length:=by unfold cY;have:=congrArg List.length (a5L (p:=λc:aL=>c5 c.name b) (l:=a));rw[a4V]at this;omega
def a2d (a:List aL) (d:List R) (r:Own) (b:aL) (c:List R) (D:en b c) (V:b.Fit) (p:aA dw a d) (L: ∀b∈a,b.Fit) (W:a.length<=1000) (x:U):
  AC Tryz.prog 79 [.J d r,.agg c] x λz E=>x.sub E/\vj (ke a b) z:=by
 have q:AC Tryz.prog 79 [.J d r,.agg c] x λz E=>tf x E (ke a b) z:= ?_
 .exact q.view λz E s=>s.zr
 have t:=p.len;obtain⟨e,Q,X,Y,Z,j9,k0,k1,k2,k3,k4,k5,k6⟩:=D.all;refine aM hm LH ?_;refine bo λf u=> ?_;have C:=U.ae (Y:= .cells c) (U.a1) u;have aH:=U.ag x f (.cells c);generalize x.set f _=o at*;have v:=U.af aH;have h:(if(cw a&&fS b)=true then(if gF a b.name=true then .error 4 else if 8<=a.length then .error 10 else .ok (a.take (cY a b.name)++b::a.drop (cY a b.name)))else .error 1)=ke a b:=rfl;generalize ke a b=k7 at*;cases P:cw a with
 |false=>rw[if_neg (by rw[P];simp)]at h;refine bc (nE a d r p L a9w o) ?_;rw[<-h];exact⟨_,U.a1,C,a9A,rfl⟩
 |true=>
 cases g:fS b with
 |false=>rw[if_neg (by rw[g];simp)]at h;refine bc (nE a d r p L a9w o) ?_;refine bc (rj b c D V o) ?_;rw[<-h];exact⟨_,U.a1,C,a9A,rfl⟩
 |true=>
 rw[if_pos (by rw[P,g];rfl)]at h;refine bc (nE a d r p L a9w o) ?_;refine bc (rj b c D V o) ?_;have F:=zq a d r b.name p P o;have w:=a2c a b.name;generalize cY a b.name=k at*;cases G:gF a b.name with
 |true=>rw[if_pos G]at h;rw[G]at F;refine bc F ?_;rw[<-h];exact⟨_,U.a1,C,a9A,rfl⟩
 |false=>
 rw[if_neg (by rw[G];simp)]at h;rw[G]at F;refine bc F ?_;refine aG (λA=> ?_) λA=> ?_
 .rw[if_pos a9w]at h;rw[<-h];exact⟨_,U.a1,C,a9A,rfl⟩
 rw[if_neg a9w]at h;have i:aS 76 [R.agg c]:=λj B=>by rw[a5p.1 B];exact e
 refine(rQ (eK i a9x λy k8=>trivial)).mpr ?_;have v:=U.af aH;refine aa ?_;refine ai (zo a d r o p W) ?_;intro l m S;have k9:=U.af (S.1 _ _ aH);refine aa ?_;have H:flat [R.agg c]=c:=by simp[flat,R.cells]
 refine eK i a9x λy n=> ?_;rw[H];have T:=p.cells λ_ _=>dw.cells;have I:av (o.set y (.cells c)) (m.set y (.cells c)) 76 (flat d) l:=S.new n;have K:(flat d).length=a.length*76:=by rw[da T,t]
 have M:=a1Z (o.set y (.cells c)) (m.set y (.cells c)) (flat d) l I a.length K k w W c e y (U.ag _ _ _);refine aa ?_;refine ai M ?_;intro z l0 N;refine aa ?_;refine⟨_,U.a1,?_⟩;rw[<-h];have O:x.sub (o.set y (.cells c)):=U.ae C (U.bI C (U.bI S.1 n));refine⟨z,d.take k++ .agg c::d.drop k,(p.take k).append ⟨⟨c,rfl,D⟩,p.drop k⟩,?_,rfl⟩;have j:flat (d.take k++ .agg c::d.drop k)=(flat d).take (k*76)++(c++(flat d).drop (k*76)):=by rw[(fV k T).1,(fV k T).2];simp[flat,R.cells]
 rw[j];exact N.base O
theorem av.lF (c:av t f e (flat g) n) (d:aS e g) (y:0<e) (o:i<g.length) (p:B.length=e):
  ∃b h a,n= .an b g.length h e/\f b=some (.cells a)/\i*e+e<=a.length/\av t (f.set b (.cells (putAt a (i*e) B))) e (flat (g.set i (.agg B))) n:=by
 have z:=da d;have C:(i+1)*e<=g.length*e:=a5i _ o;rw[a6d,a7N]at C;obtain⟨b,D,h,a,rfl,r,E,F,G,W,x,L⟩:=c.an (λk=>by rw[k,a5d]at z;omega);obtain rfl:D=g.length:=a7p y a9w;have j:=a5i e x;refine⟨b,h,a,rfl,E,a9w,U.ae c.1 r,.inr ⟨b,g.length,h,_,rfl,r,U.ag _ _ _,?_,?_,?_,x,L⟩⟩
 .rw[eJ _ _ _ a9w,F]
 .have P:g.set i (.agg B)=g.take i++ .agg B::g.drop (i+1):=a6k .. |>.trans (by rw[if_pos o])
  have S:flat (g.take i++ .agg B::g.drop (i+1))=(flat g).take (i*e)++(B++(flat g).drop ((i+1)*e)):=by rw[(fV (i+1) d).1,(fV i d).2];simp[flat,R.cells]
  have l:(a.take (i*e)).length=i*e:=by rw[a4W];omega
  have T:(i+1)*e=i*e+e:=by grind
  rw[P,S,putAt,p,<-G,a6i,a6D a9w,T,a6m];have m:(a.take (i*e)++B).length=i*e+e:=by simp_all
  have q:g.length*e=(i*e+e)+(g.length*e -(i*e+e)):=a9w;grind
 .rw[da (d:=e)]
  .simp
  .intro k V;rcases a7c V with c|rfl
   .exact d k c
   .exact p
theorem a2e (a:List aL) (c:List R) (o:Own) (b:aL) (d:List R) (z:en b d) (S:b.Fit) (k:aA dw a c) (L: ∀b∈a,b.Fit) (g:a.length<=1000) (r:U):
  AC Tryz.prog 151 [.J c o,.agg d] r λC D=>r.sub D/\vj (kf a b) C:=by
 have i:AC Tryz.prog 151 [.J c o,.agg d] r λC D=>tf r D (kf a b) C:= ?_
 .exact i.view λC D E=>E.zr
 have j:=k.len;obtain⟨l,u,v,w,A,B,H,I,K,M,N,O,Q⟩:=z.all;refine aM hm NR ?_;refine bo λT m=> ?_;have F:=U.ae (Y:= .cells d) (U.a1) m;have aH:=U.ag r T (.cells d);generalize r.set T _=p at*;have X:=U.af aH;have h:(if(cw a&&fS b)=true then(if gF a b.name=true then .ok (a.set (cY a b.name) b)else .error 3)else .error 1)=kf a b:=rfl;generalize kf a b=Y at*;cases P:cw a with
 |false=>rw[if_neg (by rw[P];simp)]at h;refine bc (nE a c o k L a9w p) ?_;rw[<-h];exact⟨_,U.a1,F,a9A,rfl⟩
 |true=>
 cases V:fS b with
 |false=>rw[if_neg (by rw[V];simp)]at h;refine bc (nE a c o k L a9w p) ?_;refine bc (rj b d z S p) ?_;rw[<-h];exact⟨_,U.a1,F,a9A,rfl⟩
 |true=>
 rw[if_pos (by rw[P,V];rfl)]at h;refine bc (nE a c o k L a9w p) ?_;refine bc (rj b d z S p) ?_;have G:=zq a c o b.name k P p;have W:gF a b.name=true->cY a b.name<a.length:=λE=>by
  simp only[gF,a4X,decide_eq_true_eq]at E;exact E.1
 generalize cY a b.name=x at*;cases y:gF a b.name with
 |false=>rw[if_neg (by rw[y];simp)]at h;rw[y]at G;refine bc G ?_;rw[<-h];exact⟨_,U.a1,F,a9A,rfl⟩
 |true=>
 rw[if_pos y]at h;rw[y]at G;have W:=W y;refine bc G ?_;refine ai (zo a c o p k g) ?_;intro Z j9 e;have n:=k.cells λ_ _=>dw.cells;obtain⟨f,q,k0,rfl,s,k1,t⟩:=av.lF e n a9w (i:=x) a9w l;have k2:=U.af (e.1 _ _ aH);have k3:cL 76 (.an f c.length q 76) (.v (.int .i64 (x)))=some (.ptr f (x*76)):=by grind[jG,Int.toNat_natCast]
 have k4:=U.aI s;refine aa ?_;refine⟨_,U.a1,?_⟩;rw[<-h];exact⟨_,c.set x (.agg d),k.set x ⟨d,rfl,z⟩,t.base F,by rw[j]⟩
theorem a2f (F o:U) (d:List R) (G:R) (L:av F o 76 d G) (r:Nat) (P:d.length=r*76) (a:Nat) (M:a<r) (N:r<=1000):
  AC Tryz.prog 150 [G,.v (.int .i64 (a:Int)),.v (.int .i64 ((a:Int)+1))] o λi j=>av F j 76 (d.take (a*76)++d.drop ((a+1)*76)) i:=by
 obtain⟨c,b,k,x,rfl,S,T,l,V,m,C,n⟩:=L.an (λq=>by rw[q,a5d]at P;omega);obtain rfl:b=r:=a9w;refine bd hm NP a9x ?_;have s:(a)+1=((a+1:Nat):Int):=a9w;rw[s];obtain⟨O,t⟩:=DS (O:=76) (a:=c) (b:=b) (j0:=a) (e:=a+1) (e2:= .i64) (c:= .i64) (d:= .i64) a9w a9w C;have u:cg 76 (.an c b k 76) none (some (.v (.int .i64 (a)))) none=some (.an c a k 76):=hM a9w;obtain⟨Q,v,_,D⟩:=ov (i:=76) (j0:=c) (e:=a+1) (e2:= .i64) a9w C;have D:=D o x d T a9w V;have w: ¬(a)=((a+1:Nat):Int):=a9w;simp -dsimp -implicitDefEqProofs (disch:=first|omega|assumption|(simp only[bk,Nat.reduceAdd];try omega)) only[go_sem,simprocAttr,↓eL,t,u,v,w];refine ur T l D a9w a9w a9w ?_;have A:a+(b -(a+1))=b - 1:=a9w;rw[A];have W:(d.drop ((a+1)*76)).length=(b -(a+1))*76:=by rw[a5k];omega
 obtain⟨h,y⟩: ∃h,h=putAt x (a*76) (d.drop ((a+1)*76)):=⟨_,rfl⟩;have E:h.length=k*76:=by rw[y,eJ _ _ _ a9w];omega
 have B:h.take ((b - 1)*76)=d.take (a*76)++d.drop ((a+1)*76):=by
  rw[y,putAt];have H:(x.take (a*76)).length=a*76:=by rw[a4W];omega
  rw[show(b - 1)*76=(x.take (a*76)++d.drop ((a+1)*76)).length by rw[a4V,H,W];omega,a7B];grind
 rw[<-y];have I:(o.set c (.cells h)) c=some (.cells h):=U.ag _ _ _;have X:cg 76 (.an c (b - 1) k 76) (some (.v (.int .i64 ((b - 1:Nat))))) (some (.v (.int .i64 ((b))))) none=some (.bA c ((b - 1)*76) (b -(b - 1)) (k -(b - 1)) 76):=Ch a9w C a9w;have e: ∀z:List R,z.length=76->kT 76 z (.bA c ((b - 1)*76) (b -(b - 1)) (k -(b - 1)) 76) (o.set c (.cells h))=some ((o.set c (.cells h)).set c (.cells (putAt h ((b - 1)*76) (List.replicate (b -(b - 1)) z).flatten))):=λz Y=>x0 I (by rw[E];omega);have p:=gd.all.1;rw[<-jq]at p;have e:=(e _ p).trans a9C;have K:(d.take (a*76)++d.drop ((a+1)*76)).length=(b - 1)*76:=by rw[a4V,a4W,a5k];omega
 clear p y W V m P;refine aa ?_;have p:=gd.all.1;rw[<-jq]at p;refine⟨_,U.a1,?_⟩;generalize f:putAt h ((b - 1)*76) _=g;have cd:g.length=k*76:=by rw[<-f,eJ _ _ _ (by rw[kV,p,E];omega),E]
 have ca:g.take ((b - 1)*76)=h.take ((b - 1)*76):=by rw[<-f,putAt,a5h,a6w (by rw[a4W];omega),a6i,a7e]
 refine⟨U.ae L.1 S,.inr ⟨c,b - 1,k,_,rfl,S,U.ag _ _ _,cd,by rw[ca,B],K,a9w,n⟩⟩
def cI (a:List aL) (b:List UInt8):Except Int (List aL):=
 if cw a=true then(if gF a b=true then .ok (a.take (cY a b)++a.drop (cY a b+1))else .error 3)else .error 1
def a2g (a:List aL) (c:List R) (p:Own) (b:List UInt8) (h:aA dw a c) (G: ∀S∈a,S.Fit) (L:a.length<=1000) (d:U):
  AC Tryz.prog 81 [.J c p,bb b] d λr y=>d.sub y/\vj (cI a b) r:=by
 have T:AC Tryz.prog 81 [.J c p,bb b] d λr y=>tf d y (cI a b) r:= ?_
 .exact T.view λr y z=>z.zr
 have V:=h.len;refine aM hm LL ?_;have k:(if cw a=true then(if gF a b=true then .ok (a.take (cY a b)++a.drop (cY a b+1))else .error 3)else .error 1)=cI a b:=rfl;generalize cI a b=i at*;cases D:cw a with
 |false=>rw[if_neg (by rw[D];simp)]at k;refine bc (nE a c p h G a9w d) ?_;rw[<-k];exact⟨_,U.a1,U.a1,a9A,rfl⟩
 |true=>
 rw[if_pos D]at k;refine bc (nE a c p h G a9w d) ?_;have C:=zq a c p b h D d;have E:gF a b=true->cY a b<a.length:=λz=>by
  simp only[gF,a4X,decide_eq_true_eq]at z;exact z.1
 generalize cY a b=o at*;cases x:gF a b with
 |false=>rw[if_neg (by rw[x];simp)]at k;rw[x]at C;refine bc C ?_;rw[<-k];exact⟨_,U.a1,U.a1,a9A,rfl⟩
 |true=>
 rw[if_pos x]at k;rw[x]at C;have E:=E x;refine bc C ?_;refine ai (zo a c p d h L) ?_;intro W e f;have F:=h.cells λ_ _=>dw.cells;have g:(flat c).length=a.length*76:=by rw[da F,V]
 refine aa ?_;refine ai (a2f d e (flat c) W f a.length g o E L) ?_;intro r j P;refine aa ?_;refine⟨_,U.a1,?_⟩;rw[<-k];rw[(fV (o+1) F).1,(fV o F).2,<-oW]at P;exact⟨r,c.take o++c.drop (o+1),(h.take o).append (h.drop (o+1)),P,rfl⟩
variable{s a7:R -> U -> Prop}{K:Ctx}{b5:FuncId}
def fG {d:U->Prop} (h: ∀w a,cy t e w a->d a) (c:AC K.p b5 g f λ_ a=>cy t e w a) (k: ∀b a,cy t e w a->a7 b a)
  (o: ∀b a,d a->s b a=a7 b a:=by intro b f c;simp -dsimp -implicitDefEqProofs (disch:=first|omega|assumption|exact U.tS a9z a9z|(simp only[bk,Nat.reduceAdd];try omega)) only[go_sem,simprocAttr,-List.reduceReplicate,↓eL,tT,tR, *]<;>rfl):nZ K b5 g f (bO s ()):=ai c λb a c=>(o b a (h w a c)).mpr (k b a c)
theorem FT (D e:U) (c:Nat) (d:List UInt8) (a:ay) (r x y:Own) (G:cy D c d e) (X:d.length<=1000000000) (f:a.sum.length=32) (n:a.gq):
  AC Tryz.prog 105 [.ptr c 0,.agg (ab a r x y)] e λ_ h=>cy D c (d++dL a) h:=by
 have Y:=(aW (M:=r) (e6:=x) (h4:=y) f).all;generalize ab a r x y=L at*;obtain⟨Z,j9,k0,q,k1,s,k2⟩:=n;obtain⟨P,t⟩:=a6r q;obtain⟨S,u⟩:=a6r s;have k3: ∀z:List UInt8,(.agg (z.map ak))=cv z:=λ_=>rfl;refine aM hm Ms ?_;refine aN λz v=> ?_;obtain⟨w,A,g⟩:=G.new (ob:= .cells L) v;have E: ∀d h,cy (D.set z (.cells L)) c d h->h.read z=some L:=λd h G=>U.af (G.get w (U.ag _ _ _));refine aa ?_;refine fG E (CJ _ _ c _ _ f g a9w) λ_ i o=> ?_;refine fG E (sl _ _ c _ _ a9w o a9y) λ_ i o=> ?_;refine fG E (sl _ _ c _ _ a9w o (by simp[iB];omega)) λ_ i o=> ?_;refine jL λk4 B=> ?_;have T:aA isRow [a.aU,a.aV,a.key] [.J (ad a.aU) r,.J (ad a.aV) x,.J (ad a.key) y]:=⟨⟨_,rfl⟩,⟨_,rfl⟩,⟨_,rfl⟩,trivial⟩;have p: ∀C∈ [a.aU,a.aV,a.key],C.length<=8:=a9y;have H: ∀C:List Int,(dr C).length=8*C.length+1:=λC=>by rw[dr,a4Y,nd]
 have V:dL a=a.sum++fl P++fl S++ [a.aU,a.aV,a.key].flatMap dr:=by rw[dL,t,u];simp
 obtain⟨k,F⟩: ∃k,[a.aU,a.aV,a.key]=k:=⟨_,rfl⟩;have k5:k.length=3:=by rw[<-F];rfl
 rw[F]at T p V;have I: ∀b,b<=3->((k.take b).flatMap dr).length<=65*b:=λb j=>by
  rw[<-F]at p|-;have:=p a.aU a9x;have:=p a.aV a9x;have:=p a.key a9x;rcases(by omega:b=0\/b=1\/b=2\/b=3)with rfl|rfl|rfl|rfl<;>simp[H]<;>omega
 generalize (([.J (ad a.aU) r,.J (ad a.aV) x,.J (ad a.key) y]):List R)=l at*;obtain⟨_,W,K⟩:=o.new (ob:= .buf 1 l.length l.length) B;have W:=(U.set_nil W).1;have k6:=T.len;rw[V,<-a5h,<-a5h,<-a5h];have k7:(d++a.sum++fl P++fl S).length<=1000001000:=by simp[iB];omega
 generalize d++a.sum++fl P++fl S=M at*;clear E F V o g;refine ch [0,26,27] (λb:Nat=> [(28,.v (.int .i64 b))]) (λb h=>b<=3/\cy D c (M++(k.take b).flatMap dr) h) (λb=>3 - b) 0 ⟨⟨a9w,by simpa using K.base (U.ae (U.ae U.a1 A) W)⟩,aR⟩ ?_;rintro b k8 ⟨j,N⟩ k9;refine aa ?_;refine aG (λO=> ?_) λO=> ?_
 .have m:k[b]? =some (k.getD b []):=by grind
  obtain⟨_,l0,Q,rfl⟩:=T.get m;have l1:=p _ (a5a m);have l2:=I b j;refine aa ?_;refine eo (sm _ _ c _ _ Q a9w N (by rw[a4V];omega)) λ_ l3 l4=> ?_;refine⟨b+1,⟨a9w,?_⟩,rfl,a9w⟩;grind[eS,List.append_assoc]
 .obtain rfl:b=3:=a9w;grind[List.take_of_length_le,U.a1]
theorem FU (b:fS e7=true):e7.gq:=by
 simp only[fS,eu,nt,jX,a4X,decide_eq_true_eq,a6E]at b;obtain⟨⟨⟨_,c⟩,a⟩,d,h,P,S,T⟩:=b;rw[if_pos a9A]at a;simp only[a4X,decide_eq_true_eq,a5l,a6l,ml,jX]at a;obtain⟨k,o,p,r,x,y⟩:=qM d;obtain⟨z,C,D,E,F,G⟩:=qM h;refine⟨c.2,a.1.2.2,λV L=> ?_,⟨k,o,a9w,p,r,x,y⟩,⟨z,C,?_,D,E,F,G⟩⟩
 .obtain⟨W,e,rfl⟩:=a5G L;simp_all
 grind[az]
theorem kO (a:cw e1=true):(∀b∈e1,b.gq)/\e1.length<=8:=by simp only[cw,a4X,a5l,a6l,decide_eq_true_eq]at a;refine⟨λb c=> ?_,a.2⟩;obtain⟨d,h,rfl⟩:=a5G c;grind[FU,List.getD]
theorem zs (b:List aL) (G:List R) (W:Own) (z:aA dw b G) (s: ∀a∈b,a.Fit) (t:b.length<=1000000) (k:U):
  AC Tryz.prog 58 [.J G W] k λe o=>k.sub o/\if cw b=true then∃u,e= .aK [.J ((fC b).map ak) u,.v (.int .i64 0)]else e= .aK [.J [] .nil,.v (.int .i64 1)]:=by
 have k2:=z.len;have k3:=λL=>hK L;refine aM hm L4 ?_;refine bc (nE b G W z s t _) ?_;refine aG (λC=> ?_) λC=> ?_
 .trivial
 obtain⟨f,k4⟩:=kO C;refine bo λh v=> ?_;have w:cy k h [] (k.set h (.cells [.J [] .nil,.v (.int .i64 0)])):=⟨.nil,bh.nil U.a1⟩;refine eo (mZ k _ h [] (UInt8.ofNat b.length) w a9x) λ_ k5 k6=> ?_;have cZ:=F3 z f;refine ch [0,4,19,20] (λc:Nat=> [(21,.v (.int .i64 c))]) (λc o=>c<=b.length/\cy k h (UInt8.ofNat b.length::(b.take c).flatMap eO) o) (λc=>b.length - c) 0 ⟨⟨a9w,by trivial⟩,aR⟩ ?_;rintro c A ⟨k7,x⟩ B;refine aa ?_;refine aG (λH=> ?_) λH=> ?_
 .have g:b[c]? =some (b.getD c default):=by simp_all
  obtain⟨_,k8,T,rfl,r⟩:=z.get g;have p:=f _ (a5a g);have i:=cZ c;have I:(b.take (c+1)).flatMap eO=(b.take c).flatMap eO++eO (b.getD c default):=by rw[eS (b:=default) a9w,a5E];simp
  generalize b.getD c default=a at*;have K:=uN p r.k.1 r.z.1;obtain⟨M,k9,l0,l1,l2,l3,l4,l5,l6,l7,l8,l9,n0⟩:=r.all;obtain⟨_,_,n1,n2⟩:=nG r;have n3:=iZ (n:= .agg T) M;have n4:=jq;have n5:=hi (a:=a.aD);have n9:= @oA a.aD;refine aa ?_;refine aN λP L=> ?_;obtain⟨N,O,D⟩:=x.new (ob:= .cells T) L;have E: ∀aP o,cy (k.set P (.cells T)) h aP o->o.read P=some T:=λaP o Q=>U.af (Q.get N (U.ag _ _ _));have a00: ∀aP:List UInt8,s7 (bb aP)=some (.J (aP.map ak) .any):=λaP=>rfl;obtain⟨y,S⟩: ∃y,UInt8.ofNat b.length::(b.take c).flatMap eO=y:=⟨_,rfl⟩;rw[S]at D;have a01:y.length<=9000:=by rw[<-S,a4Y];omega
  rw[eO,a4V]at K;have a02:=ua a.name;have a03:=p.n;have a04:=p.c;refine aa ?_;refine fG E (CU _ _ h _ a.name .any a9w D a9w) λ_ j D=> ?_;refine fG E (mZ _ _ h _ (UInt8.ofNat a.aD.length) D (by rw[a4V];omega)) λ_ a05 X=> ?_;have a06:(y++fx a.name++ [UInt8.ofNat a.aD.length]).length<=10000:=by grind
  have l: ∀d,((a.aD.take d).flatMap fx).length<=200:=λd=>by
   have:=yA (a:=a.aD.take d) λC Y=>p.cs C (a5g Y);rw[a4W]at this;omega
  refine ch [4,6,21,37,38] (λd:Nat=> [(39,.v (.int .i64 d))]) (λd o=>d<=a.aD.length/\cy (k.set P (.cells T)) h (y++fx a.name++ [UInt8.ofNat a.aD.length]++(a.aD.take d).flatMap fx) o) (λd=>a.aD.length - d) 0 ⟨⟨a9w,by simpa using X⟩,aR⟩ ?_;rintro d a07 ⟨a08,F⟩ B;have a09:=E _ _ F;refine aa ?_;refine aG (λc2=> ?_) λc2=> ?_
  .have m:=l d;have a10:=p.cs (a.aD.getD d []) (by simp_all);refine eo (CU _ _ h _ (a.aD.getD d []) .any a9w F (by rw[a4V];omega)) λ_ Z V=> ?_;refine⟨d+1,⟨a9w,?_⟩,rfl,a9w⟩;rw[eS (b:= []) a9w,a5E,<-a5h];simpa using V
  .obtain rfl:d=a.aD.length:=a9w;have m:=l a.aD.length;rw[a5n]at F m;have a11:=pt r.k.1 p.k;refine fG E (FT _ _ h _ a.bM _ _ _ F (by rw[a4V];omega) r.k.1 p.k) λ_ Z V=> ?_;refine eo (FT _ _ h _ a.cq _ _ _ V (by grind) r.z.1 p.z) λ_ a13 j9=> ?_;refine⟨c+1,⟨a9w,?_⟩,rfl,a9w⟩;have k0:=j9.base (U.ae U.a1 O);rw[I,<-a6h,S,eO];simpa using k0
 .obtain rfl:c=b.length:=a9w;have i:=cZ b.length;rw[a5n]at x i;refine ai (CI k A h _ x (by rw[a4Y];omega)) ?_;rintro _ j ⟨n,q,rfl⟩;refine aa ?_;refine bc (CV k j h _ (x.mono q.sub)) ?_;have k1:=U.ar (x.sub v) q.sub
  first|exact⟨n,rfl⟩|exact⟨k1,n,rfl⟩
theorem FV (n k1:U) (h:Nat) (A:ay) (D:List UInt8) (l1:n h=none) (l2:A.In 8) (e:bY n h ⟨dL A++D,0⟩ k1):
  AC Tryz.prog 175 [.ptr h 0] k1 λq S=>bY n h ⟨D,0⟩ S/\ ∃F G L,q= .agg (ab A F G L):=by
 have fc:=aW (M:= .nil) (e6:= .nil) (h4:= .nil) bj;have a08:=fc.len;have a09:=fc.t37;obtain⟨a,b,c,a10,cm,d⟩:=A;obtain⟨P,l3,l4,l5,l6,l7,l8,l9,a11,n0,a13⟩:=l2;obtain⟨o,rfl⟩:=a6r l9;obtain⟨r,rfl⟩:=a6r n0
 dsimp only at*
 have n1:dL ⟨a,b,c,(o),(r),d⟩++D=a++(fl o++(fl r++(dr b++(dr c++(dr d++D))))):=by simp[dL]
 rw[n1]at e;have a14:(cv a).cells=a.map ak:=rfl;have a15:(a.map ak).length=32:=by simp[P]
 have a16:=cn;have a18:putAt (ab az .nil .nil .nil) 0 (a.map ak)=ab ⟨a,[],[],0,0,[]⟩ .nil .nil .nil:=uj bj P;have a19: ∀(b c) (T V) (d) (F G L),putAt (ab az .nil .nil .nil) 0 (ab ⟨a,b,c,T,V,d⟩ F G L)=ab ⟨a,b,c,T,V,d⟩ F G L:=λb c T V d F G L=>cC bj P;have cl: ∀(b c) (T V) (d) (F G L),(ab ⟨a,b,c,T,V,d⟩ F G L).length=37/\(ab ⟨a,b,c,T,V,d⟩ F G L).take 37=ab ⟨a,b,c,T,V,d⟩ F G L:=λb c T V d F G L=>by
  have:=aW (A:=⟨a,b,c,T,V,d⟩) (M:=F) (e6:=G) (h4:=L) P;exact⟨this.len,this.t37⟩
 refine aM hm OH ?_;refine aN λq n2=> ?_;rw[cn];obtain⟨B,k2,e⟩:=e.new (ob:= .cells (ab az .nil .nil .nil)) n2;refine aa ?_;have k3:=CR _ _ h _ e;rw[D2 _ _ P]at k3;refine ai k3 ?_;rintro _ a27 ⟨M,rfl⟩
 dsimp only at M|-
 refine aa ?_;refine aN λz N=> ?_;obtain⟨f,k4,k5⟩:=M.new (ob:= .cells (ab ⟨a,[],[],0,0,[]⟩ .nil .nil .nil)) N;have n3:q≠z:=by rintro rfl;rw[M.get B (U.ag _ _ _)]at N;cases N
 obtain⟨W,H⟩: ∃W,n.set q (.cells (ab az .nil .nil .nil))=W:=⟨_,rfl⟩;have n4:W h=none:=by rw[<-H,U.ao _ _ (a5c B)];exact l1
 have n5:W q=some (.cells (ab az .nil .nil .nil)):=by rw[<-H,U.ag]
 have k6:n.sub W:=by rw[<-H];exact U.ae U.a1 k2
 rw[H]at k5 k4;have k7: ∀ {g O S},bY (W.set z g) h O S->S z=some g:=λe=>e.get f (U.ag _ _ _);refine aa ?_;have s:=sn _ _ h 1048576 a9w _ k5;rw[ub _ a9w]at s;refine ai s ?_;rintro _ a29 ⟨t,rfl⟩;have a30:=U.aI (k7 t);have i:putAt (ab ⟨a,[],[],0,0,[]⟩ .nil .nil .nil) 34 [.v (.int .i64 (o))]=ab ⟨a,[],[],(o),0,[]⟩ .nil .nil .nil:=sx P;have t:=t.put (.cells (ab ⟨a,[],[],(o),0,[]⟩ .nil .nil .nil)) f
 dsimp only at t|-
 refine aa ?_;have s:=sn _ _ h 1048576 a9w _ t;rw[ub _ a9w]at s;refine ai s ?_;rintro _ a34 ⟨u,rfl⟩;have a36:=U.aI (k7 u);have a38:putAt (ab ⟨a,[],[],(o),0,[]⟩ .nil .nil .nil) 35 [.v (.int .i64 (r))]=ab ⟨a,[],[],(o),(r),[]⟩ .nil .nil .nil:=sy P;have u:=u.put (.cells (ab ⟨a,[],[],(o),(r),[]⟩ .nil .nil .nil)) f
 dsimp only at u|-
 refine aa ?_;refine jL λQ n9=> ?_;obtain⟨a00,a01,X⟩:=u.new (ob:= .buf 1 3 3) n9;have Y:z≠Q:=by grind
 have a02:W Q=none:=by rwa[U.ao _ _ (a5c Y)]at a01
 rw[U.dZ _ Y]at X;obtain⟨E,I⟩: ∃E,W.set Q (.buf 1 3 3)=E:=⟨_,rfl⟩;rw[I]at X;have Z:W.sub E:=by rw[<-I];exact U.ae U.a1 a02
 have a03:E h=none:=by rw[<-I,U.ao _ _ (a5c a00)];exact n4
 have a04:E z=none:=by rw[<-I,U.ao _ _ Y];exact k4
 have j: ∀ {g O S},bY (E.set z g) h O S->S z=some g:=λe=>e.get f (U.ag _ _ _);have j9: ∀g,(E.set z g) h=none:=λg=>by rw[U.ao _ _ (a5c f)];exact a03
 let a05:Nat->ay:=λk=>⟨a,if 0<k then b else [],if 1<k then c else [],(o),(r),if 2<k then d else []⟩
 let a06:Nat->List UInt8:=λk=>if k=0 then dr b++(dr c++(dr d++D))else if k=1 then dr c++(dr d++D)else if k=2 then dr d++D else D;refine ch [0,2,3,20,21] (λk:Nat=> [(22,.v (.int .i64 k))]) (λk S=>k<=3/\ ∃x y i,bY (E.set z (.cells (ab (a05 k) x y i))) h ⟨a06 k,0⟩ S) (λk=>3 - k) 0 ⟨⟨a9w,.nil,.nil,.nil,X⟩,aR⟩ ?_;rintro k K ⟨a42,x,y,m,p⟩ a43;refine aa ?_;refine aG (λa07=> ?_) λa07=> ?_
 .have k0:=U.aI (j p);rcases(by omega:k=0\/k=1\/k=2)with rfl|rfl|rfl
  .have p:bY (E.set z (.cells (ab ⟨a,[],[],(o),(r),[]⟩ x y m))) h ⟨dr b++(dr c++(dr d++D)),0⟩ K:=p;have k0:=U.aI (j p);have l:=pk _ _ h 8 a9w _ (j9 _) p;rw[pq b 8 _ l6 a9w l3]at l;refine aa ?_;refine ai l ?_;rintro _ k8 ⟨C,k9,rfl⟩;have l0:=U.aI (j C);have v:=λx y i w=>Df (A:=⟨a,[],[],(o),(r),[]⟩) (a:=x) (M:=y) (e6:=i) (h4:=w) (q:=b) P
   dsimp only at v C|-
   refine aa ?_;exact⟨1,⟨a9w,_,_,_,C.put _ f⟩,rfl,a9w⟩
  .have p:bY (E.set z (.cells (ab ⟨a,b,[],(o),(r),[]⟩ x y m))) h ⟨dr c++(dr d++D),0⟩ K:=p;have k0:=U.aI (j p);have l:=pk _ _ h 8 a9w _ (j9 _) p;rw[pq c 8 _ l7 a9w l4]at l;refine aa ?_;refine ai l ?_;rintro _ k8 ⟨C,k9,rfl⟩;have l0:=U.aI (j C);have v:=λx y i w=>Dg (A:=⟨a,b,[],(o),(r),[]⟩) (M:=x) (a:=y) (e6:=i) (h4:=w) (q:=c) P
   dsimp only at v C|-
   refine aa ?_;exact⟨2,⟨a9w,_,_,_,C.put _ f⟩,rfl,a9w⟩
  .have p:bY (E.set z (.cells (ab ⟨a,b,c,(o),(r),[]⟩ x y m))) h ⟨dr d++D,0⟩ K:=p;have k0:=U.aI (j p);have l:=pk _ _ h 8 a9w _ (j9 _) p;rw[pq d 8 _ l8 a9w l5]at l;refine aa ?_;refine ai l ?_;rintro _ k8 ⟨C,k9,rfl⟩;have l0:=U.aI (j C);have v:=λx y i w=>sz (A:=⟨a,b,c,(o),(r),[]⟩) (M:=x) (e6:=y) (a:=i) (h4:=w) (q:=d) P
   dsimp only at v C|-
   refine aa ?_;exact⟨3,⟨a9w,_,_,_,C.put _ f⟩,rfl,a9w⟩
 .obtain rfl:k=3:=a9w;have p:bY (E.set z (.cells (ab ⟨a,b,c,(o),(r),d⟩ x y m))) h ⟨D,0⟩ K:=p;have a47:=U.af (j p);have a48:=U.aI (p.get B (by rw[U.ao _ _ n3];exact Z _ _ n5));have cU:=cl b c o r d x y m;refine aa ?_;have C:=p.other (ob:= .cells (ab ⟨a,b,c,(o),(r),d⟩ x y m)) B;refine⟨_,U.a1,C.base ?_,_,_,_,rfl⟩;exact U.ae (U.ae (U.ar k6 Z) (U.bI (U.ar k6 Z) a04)) k2
theorem a2h (a b:Nat) (d:a<=b) (h:b<=1048576) (c:List UInt8):fy b ⟨fl a++c,0⟩=(a,⟨c,0⟩):=by have k:=qI (fl a) c;grind[iB,fy,fk,fl,UInt8.toNat_ofNat',Nat.shiftRight_eq_div_pow]
def FW (a:List UInt8) (b:Nat) (d:a.length<=b) (h:b<=1048576) (c:List UInt8):qH b ⟨fx a++c,0⟩=(a,⟨c,0⟩):=by unfold qH;rw[fx,a5h,a2h _ _ d h,qI];rfl
structure aL.In (t:aL):Prop where
 le:t.gq
 k:t.bM.In 8
 z:t.cq.In 8
def tg {a:List (List UInt8)}:aS 1 (bE a):=λc b=>by obtain⟨_,_,rfl⟩:=a5o.1 b;rfl
theorem a2i (V N:U) (p:Nat) (i:aL) (y:List UInt8) (l1:V p=none) (l2:i.In) (D:bY V p ⟨eO i++y,0⟩ N):
  AC Tryz.prog 110 [.ptr p 0] N λW E=>bY V p ⟨y,0⟩ E/\dw i W:=by
 obtain⟨h,a,e,F⟩:=i;obtain⟨⟨l3,a13,a3,_,_⟩,G,L⟩:=l2
 dsimp only at*
 have l4:eO ⟨h,a,e,F⟩++y=fx h++(UInt8.ofNat a.length::(a.flatMap fx++(dL e++(dL F++y)))):=by simp[eO]
 rw[l4]at D;have a14:=jq;refine aM hm MC ?_;refine aN λW l5=> ?_;rw[jq];obtain⟨j,O,D⟩:=D.new (ob:= .cells eP) l5;refine aa ?_;have f:=CX _ _ p 16 a9w _ D;rw[FW _ _ l3 a9w]at f;refine ai f ?_;rintro _ a15 ⟨g,t,_,rfl⟩;have a16:= @p7 h t
 dsimp only at g|-
 refine aa ?_;have u: ∀(z) b c k,c.length=37->k.length=37->(bb h::R.J (bE z) b::(c++k)).length=76/\(bb h::R.J (bE z) b::(c++k)).take 76=bb h::R.J (bE z) b::(c++k)/\putAt eP 0 (bb h::R.J (bE z) b::(c++k))=bb h::R.J (bE z) b::(c++k):=λz b c k g l=>by
  have l6:(bb h::R.J (bE z) b::(c++k)).length=76:=by simp[g,l]
  exact⟨l6,a4U a9w,rZ (by trivial)⟩
 obtain⟨o,Q⟩: ∃o,ab az .nil .nil .nil=o:=⟨_,rfl⟩;have v:o.length=37:=by rw[<-Q];rfl
 have a18:=gd.all.1;refine aN λP w=> ?_;obtain⟨S,X,l⟩:=g.new (ob:= .cells (bb h:: .J [] .nil::(o++o))) w;have l7:=u [] .nil o o v v;rw[show bE []= []from rfl]at l7;have Y:W≠P:=by rintro rfl;rw[g.get j (U.ag _ _ _)]at w;cases w
 obtain⟨r,m⟩: ∃r,V.set W (.cells eP)=r:=⟨_,rfl⟩;have l8:r p=none:=by rw[<-m,U.ao _ _ (a5c j)];exact l1
 have l9:r W=some (.cells eP):=by rw[<-m,U.ag]
 have Z:V.sub r:=by rw[<-m];exact U.ae U.a1 O
 rw[m]at l X;rw[Q];refine aa ?_;have j9:=ph _ _ p _ l;rw[qJ]at j9;have n0:(UInt8.ofNat a.length).toNat=a.length:=by rw[a6b];omega
 have a19:min (a.length:Int) 8=(a.length):=a9w;refine ai j9 ?_;rintro _ a27 ⟨A,rfl⟩;obtain⟨n1,A⟩:=A;rw[n0];refine aa ?_;have a29: ∀x B,((r.set P x).set p B) p=some B:=λx B=>U.ag _ _ _;have k0: ∀x,(r.set P x) p=none:=λx=>by rw[U.ao _ _ (a5c S)];exact l8
 have T: ∀ {x n2 E},bY (r.set P x) p n2 E->E P=some x:=λD=>D.get S (U.ag _ _ _);refine ch [0,2,3,11] (λd:Nat=> [(12,.v (.int .i64 d))]) (λd E=>d<=a.length/\ ∃b t,bh ((r.set P (.cells (bb h:: .J (bE (a.take d)) b::(o++o)))).set p (hS ⟨(a.drop d).flatMap fx++(dL e++(dL F++y)),0⟩ t)) E 1 (bE (a.take d)) b) (λd=>a.length - d) 0 ⟨⟨a9w,.nil,n1,bh.nil A⟩,aR⟩ ?_;rintro d n3 ⟨a30,b,a34,k1⟩ a36;have n:=dc.rs k1;have n4:=U.af (T n);refine aa ?_;refine aG (λn5=> ?_) λn5=> ?_
 .have n9:=a3 (a.getD d []) (by simp_all);have a00:=drop_cons (a:=a) (b:= []) (e:=d) a9w;have k2:=eS (a:=a) (b:= []) (e:=d) a9w;have f:=CX _ _ p 16 a9w _ n.full;rw[a00,a5v,a5h,FW _ _ n9 a9w]at f;refine ai f ?_;rintro _ a01 ⟨q,a02,_,rfl⟩;obtain⟨a38,H⟩:=dc.step k1 (k0 _) q;have a03:=T (dc.rs H);have a42:=U.af a03;have a43:= @p7 (a.getD d []) a02
  dsimp only at H|-
  refine aa ?_;refine jL (λa47 a04=> ?_) (d:=tg (a:= [_]));have a48:=λd=>hi (a:=a.take d);refine ea (H.mono (U.ae U.a1 a04)) tg (tg (a:= [_])) (by simp[hi];omega) (by simp[hi];omega) λa05 a52 C=> ?_;have k3:bE (a.take d)++ [bb (a.getD d [])]=bE (a.take (d+1)):=by rw[k2];simp[bE]
  rw[k3]at C|-;clear k2 k3;have a06:=U.aI (T (dc.rs C));refine aa ?_;have s:=C.set (ob:= .cells (bb h:: .J (bE (a.take (d+1))) a05::(o++o))) (by rw[U.ao _ _ S];exact U.ag _ _ _);rw[U.dZ _ (a5c S),U.set_set]at s;grind
 .obtain rfl:d=a.length:=a9w;rw[a8f,a5n]at n;rw[a5n]at n4;have k4:=k0;have a07:=FV _ n3 p e (dL F++y) (k4 _) G n;refine ai a07 ?_;rintro _ a01 ⟨q,k5,k6,k7,rfl⟩;obtain⟨c,I⟩: ∃c,ab e k5 k6 k7=c:=⟨_,rfl⟩;have K:c.length=37:=by rw[<-I];exact(aW G.sum).len
  have a56:=U.aI (T q);have a57:putAt (bb h::R.J (bE a) b::(o++o)) 2 c=bb h::R.J (bE a) b::(c++o):=by simp only[putAt,a7O,a6Q,K,a6h,a5m,Nat.reduceAdd,a6A];simp_all
  have a08:=q.put (.cells (bb h:: .J (bE a) b::(c++o))) S;have a61:=u a b c o K v;rw[I];refine aa ?_;have a09:=FV _ _ p F y (k4 _) L a08;refine ai a09 ?_;rintro _ a62 ⟨C,k8,k9,l0,rfl⟩;obtain⟨k,M⟩: ∃k,ab F k8 k9 l0=k:=⟨_,rfl⟩;have a10:k.length=37:=by rw[<-M];exact(aW L.sum).len
  have a06:=U.aI (T C);have a63:putAt (bb h::R.J (bE a) b::(c++o)) 39 k=bb h::R.J (bE a) b::(c++k):=by simp_all [putAt]
  have s:=C.put (.cells (bb h:: .J (bE a) b::(c++k))) S;have a65:=u a b c k K a10;have a68:=U.aI (C.get j (by rw[U.ao _ _ Y];exact l9));have a69:=U.af (T s);have a71:=a5c Y;rw[M];refine aa ?_;have a11:=s.other (ob:= .cells (bb h:: .J (bE a) b::(c++k))) j;refine⟨_,U.a1,a11.base ?_,_,rfl,⟨b,k5,k6,k7,k8,k9,l0,by rw[I,M]⟩,⟨G.sum,?_⟩,⟨L.sum,?_⟩,(show a.length<=1000000 by omega)⟩
  .exact U.ae (U.ae Z (U.bI Z X)) O
  .exact⟨a5R G.ob a9A,a5R G.oc a9A,a5R G.od a9A⟩
  .exact⟨a5R L.ob a9A,a5R L.oc a9A,a5R L.od a9A⟩
def aL.In.fit (a:e7.In):e7.Fit:=⟨by have:=a.le.n;omega,by have:=a.le.c;omega,λb c=>by have:=a.le.cs b c;omega⟩
theorem zt (b: ∀c∈e1,c.In):(e1.flatMap eO).length<=1000*e1.length:=by
 induction e1 with
 |nil=>simp
 |cons d e1 ih=>have a:=b d a9x;have:=uN a.le a.k.sum a.z.sum;grind
theorem a2j (a:List aL) (x:Own) (o:U) (P:cw a=true) (y: ∀z∈a,z.In):
  AC Tryz.prog 59 [.J ((fC a).map ak) x] o λl C=> ∃c S,bh o C 76 c S/\aA dw a c/\l= .aK [.J c S,.v (.int .i64 0)]:=by
 obtain⟨j9,k0⟩:=kO P;have k1:=zt y;have k2:(fC a).length<=9000:=by rw[fC,a4Y];omega
 refine mU λk3=> ?_;have m:x= .nil->fC a= []:=λn=>by simp_all
 refine aM hm L6 ?_;have q:(UInt8.ofNat a.length).toNat=a.length:=by rw[a6b];omega
 have k4:min (a.length:Int) 9=(a.length):=a9w;refine ai (CL (fC a) x o m a9w) ?_;rintro _ k5 ⟨k,D,rfl,s⟩;refine aa ?_;have V:=ph _ _ k _ s;rw[fC,qJ]at V;refine ai V ?_;rintro _ k6 ⟨⟨t,u⟩,rfl⟩;rw[q];refine aa ?_;refine ch [0,4,13] (λb:Nat×List R×Own=> [(14,.v (.int .i64 b.1)),(5,.J b.2.1 b.2.2)]) (λb C=>b.1<=a.length/\aA dw (a.take b.1) b.2.1/\ ∃v,bh (o.set k (hS ⟨(a.drop b.1).flatMap eO,0⟩ v)) C 76 b.2.1 b.2.2) (λb=>a.length - b.1) (0,[],.nil) ⟨⟨a9w,trivial,t,bh.nil u⟩,aR⟩ ?_;rintro⟨d,c,W⟩ e ⟨w,h,k7,p⟩ k8
 dsimp only at w h p|-
 have E:=dc.rs p;have k9:c.length=d:=by rw[h.len,a4W];omega
 refine aa ?_;refine aG (λA=> ?_) λA=> ?_
 .have l0:=drop_cons (a:=a) (b:=default) (e:=d) a9w;have B:=eS (a:=a) (b:=default) (e:=d) a9w;have H:=y (a.getD d default) (by simp_all);have I:=a2i (e.del k) e k (a.getD d default) ((a.drop (d+1)).flatMap eO) (by simp[U.del]) H (by have:=E.full;grind);refine ai I ?_;rintro l1 f ⟨F,g⟩;obtain⟨i,G⟩:=dc.step p D F;have K:=g;obtain⟨T,rfl,M⟩:=g;have N:=M.all.1;refine aa ?_;refine jL (λl2 O=> ?_);refine ea (G.mono (U.ae U.a1 O)) (h.cells λ_ _ L=>by obtain⟨_,rfl,L⟩:=L;exact L.all.1) (λn r=>by rw[a5p]at r;subst r;exact N) a9y a9y λQ l3 X=> ?_;refine aa ?_;refine⟨(d+1,c++ [.agg T],Q),⟨by simp only;omega,?_,i,X⟩,⟨rfl,rfl⟩,by simp only;omega⟩;simp only[B];exact h.snoc K
 .obtain rfl:d=a.length:=a9w;rw[a8f]at E;rw[a5n]at h;have r:=CS _ _ k _ E.full;refine ai r ?_;rintro _ f ⟨F,rfl⟩;have l4:(pj ⟨List.flatMap eO [],0⟩).e=0:=rfl;refine aa ?_;have j:=zs a c W h (λz Y=>(y z Y).fit) a9w f;simp only[P,if_true]at j;refine ai j ?_;rintro _ l5 ⟨Z,l6,rfl⟩;refine aa ?_;refine bc (D1 _ _ _ _ _ a9w) ?_;obtain⟨i,G⟩:=dc.step p D F;exact⟨_,U.a1,c,W,(G.base (U.ae U.a1 D)).mono Z,h,rfl⟩
theorem a2k (a:List (List UInt8)) (d:Own) (c:U) (C:a.length<=1000000):
  AC Tryz.prog 80 [.J (bE a) d] c λh k=>c.sub k/\ ∃o,h= .J (bE a) o:=by
 have D:=hi (a:=a);refine mU λE=> ?_;have p:d= .nil->bE a= []:=λF=>by simp_all
 refine bd hm LJ a9x ?_;simp -dsimp -implicitDefEqProofs (disch:=first|omega|assumption|(simp only[bk,Nat.reduceAdd];try omega)) only[go_sem,simprocAttr,↓o9];refine oa (λb=>by rw[p b]) (λb=> ?_) ?_
 .have r:bE a= []:=by trivial
  rw[r];simp -dsimp -implicitDefEqProofs (disch:=first|omega|assumption|(simp only[bk,Nat.reduceAdd];try omega)) only[go_sem,simprocAttr,a5O];exact⟨c,U.a1,U.a1,_,rfl⟩
 .simp -dsimp -implicitDefEqProofs (disch:=first|omega|assumption|(simp only[bk,Nat.reduceAdd];try omega)) only[go_sem,simprocAttr];refine db U.a1 (by simp[aS]) λG L x=> ?_;simp -dsimp -implicitDefEqProofs (disch:=first|omega|assumption|(simp only[bk,Nat.reduceAdd];try omega)) only[go_sem,simprocAttr];refine ea x (λ_ b=>by cases b) tg (by rw[a5d];omega) (by rw[a5d];omega) λP y z=> ?_;simp -dsimp -implicitDefEqProofs (disch:=first|omega|assumption|(simp only[bk,Nat.reduceAdd];try omega)) only[go_sem,simprocAttr,a5m];exact⟨y,U.a1,z.sub,_,rfl⟩
structure cR (b:U) (a gA c:Nat) (h:ah) (l:List aL):Prop where
 hb:bB b gA c h
 x: ∃d o,b a=some (.cells [.ptr gA 0,.J d o])/\aA dw l d
 nH:a≠gA
 nI:a≠c
def cD (c d h:Nat) (k o:U):Prop:= ∀a b,a≠c->a≠d->a≠h->k a=some b->o a=some b
theorem cD.of {lM:Nat}{s:U} (a:s.sub f):cD e i lM s f:=λb c _ _ _ d=>a b c d
def cD.ext (a:Ext e i f t):cD v e i f t:=λb c _ d h k=>a b c d h k
theorem cD.trans (k:cD e i v f t) (o:cD e i v t e4):cD e i v f e4:=λa b c d h p=>o a b c d h (k a b c d h p)
variable{Y:br}
def cD.zu (b:cD e i v f t):cD e i v f (t.set e Y):=λc d a h k o=>by rw[U.ao _ _ a];exact b c d a h k o
variable{H:ah}
def cR.sub (a:cR f e i v H e1) (b:f.sub t):cR t e i v H e1:=⟨a.hb.mono b,by obtain⟨c,d,h,k⟩:=a.x;exact⟨c,d,b _ _ h,k⟩,a.nH,a.nI⟩
variable{M e6 h4:Own}
def cR.put {b:List aL} (a:cR f e i v H b) (c:aA dw e1 g):cR (f.set e (.cells [.ptr i 0,.J g M])) e i v H e1:=⟨a.hb.set ⟨a.nH,a.nI⟩,⟨g,M,U.ag _ _ _,c⟩,a.nH,a.nI⟩
def iO (a:Except Int (List aL)) (b:List aL):Int×List aL:=match a with
 | .error c=>(c,b)
 | .ok d=>(0,d)
def a2l (d:U) (b r x:Nat) (C:ah) (a:List aL) (D:cR d b r x C a) (f: ∀c∈a,c.Fit) (g:a.length<=1000) (h:cN):
  AC Tryz.prog 48 [.ptr b 0,h.V] d λE F=>cR F b r x C (iO (cI a h.d.table) a).2/\cD b r x d F/\E= .v (.int .i64 (iO (cI a h.d.table) a).1):=by
 obtain⟨i,j,y,l⟩:=D.x;obtain⟨⟨G,c,L,P⟩,S,T⟩:=h
 dsimp only
 show AC Tryz.prog _ [.ptr b 0,.agg [ak G,bb c,.J (bE L) S,.J (ad P) T]] d _;refine aM hm KM ?_;refine bo λV z=> ?_;have k:=U.ae (Y:= .cells [ak G,bb c,.J (bE L) S,.J (ad P) T]) (U.a1) z;have s:=U.af y;have m:b≠V:=by rintro rfl;rw[y]at z;cases z
 have t:=m.symm;refine aa ?_;generalize d.set V _=n at*;refine ai (a2g a i j c l f g n) ?_;rintro E u ⟨o,p⟩;have v:=U.aI (o _ _ (k _ _ y));have W:=D.sub (U.ar k o);cases e:cI a c with
 |error w=>rw[e]at p;obtain⟨A,rfl⟩:=p;refine aa ?_;exact⟨_,U.a1,W,cD.of (U.ar k o),rfl⟩
 |ok B=>rw[e]at p;obtain⟨H,q,rfl⟩:=p;refine aa ?_;exact⟨_,U.a1,W.put q,(cD.of (U.ar k o)).zu,rfl⟩
def a2m (h:U) (k E F:Nat) (g:ah) (a:List aL) (i:cR h k E F g a) (v: ∀b∈a,b.Fit) (w:a.length<=1000) (d:cN) (A:d.d.Fit):
  AC Tryz.prog 47 [.ptr k 0,d.V] h λj l=>cR l k E F g (iO (ke a ⟨d.d.table,d.d.aD,az,az⟩) a).2/\cD k E F h l/\j= .v (.int .i64 (iO (ke a ⟨d.d.table,d.d.aD,az,az⟩) a).1):=by
 obtain⟨B,H,r,I⟩:=i.x;obtain⟨⟨G,b,c,L⟩,x,P⟩:=d;obtain⟨K,S,M,j9⟩:=A
 dsimp only at*
 show AC Tryz.prog _ [.ptr k 0,.agg [ak G,bb b,.J (bE c) x,.J (ad L) P]] h _;refine aM hm KK ?_;refine bo λT V=> ?_;have W:=U.ae (Y:= .cells [ak G,bb b,.J (bE c) x,.J (ad L) P]) (U.a1) V;have k0:=U.af r;have N:k≠T:=by rintro rfl;rw[r]at V;cases V
 have k1:=N.symm;refine aa ?_;have aH:=U.ag h T (.cells [ak G,bb b,.J (bE c) x,.J (ad L) P]);generalize h.set T _=O at*;refine ai (a2k c x O S) ?_;rintro _ Q ⟨y,m,rfl⟩;have fY:=U.af (y _ _ (W _ _ r));have k2:=U.af (y _ _ aH);refine aa ?_;rw[jq];have e:en ⟨b,c,az,az⟩ (bb b:: .J (bE c) m::(ab az .nil .nil .nil++ab az .nil .nil .nil)):=⟨⟨m,_,_,_,_,_,_,rfl⟩,⟨bj,mf⟩,⟨bj,mf⟩,S⟩;have n:eP=bb []:: .J [] .nil::(ab az .nil .nil .nil++ab az .nil .nil .nil):=rfl;have X: ∀z C o:R,∀p:List R,putAt (z::C::p) 0 [o]=o::C::p:=λ_ _ _ _=>rfl;have k3: ∀z C o:R,∀p:List R,putAt (z::C::p) 1 [o]=z::o::p:=λ_ _ _ _=>rfl;rw[n,X];generalize ab az .nil .nil .nil++ab az .nil .nil .nil=k4 at*;have q:=a2d a B H ⟨b,c,az,az⟩ _ e ⟨K,S,M⟩ I v w Q;have k5:=e.all.1;clear n e;refine aa ?_;refine ai q ?_;clear q;rintro j k6 ⟨s,D⟩;have Y:=y _ _ (W _ _ r);have k7:=U.aI (s _ _ Y);have f:=U.ar W (U.ar y s);have t:=i.sub f;cases u:ke a ⟨b,c,az,az⟩with
 |error k8=>rw[u]at D;obtain⟨k9,rfl⟩:=D;refine aa ?_;exact⟨_,U.a1,t,cD.of f,rfl⟩
 |ok l0=>rw[u]at D;obtain⟨l1,Z,rfl⟩:=D;refine aa ?_;exact⟨_,U.a1,t.put Z,(cD.of f).zu,rfl⟩
def mv (c:List aL) (b:cB):Int×Option aL:=match c.find? (λa=>decide (a.name=b.table))with
 |none=>(3,none)
 |some a=>if b.row.length=a.aD.length+1 then(0,some a)else(6,some a)
theorem FX (b:U) (r n q:Nat) (s:ah) (x:List aL) (t:cR b r n q s x) (Y:x.length<=1000) (E:cN) (u:E.d.Fit):
  AC Tryz.prog 82 [.ptr r 0,E.V] b λG v=>b.sub v/\match mv x E.d with
   |(L,none)=>G= .aK [.agg eP,.v (.int .i64 L)]
   |(L,some a)=> ∃T,en a T/\G= .aK [.agg T,.v (.int .i64 L)]:=by
 obtain⟨w,A,P,B⟩:=t.x;obtain⟨⟨y,a,z,c⟩,C,D⟩:=E;obtain⟨Z,j9,k0,k1⟩:=u
 dsimp only at*
 have k2:=bG (q:=c);show AC Tryz.prog _ [.ptr r 0,.agg [ak y,bb a,.J (bE z) C,.J (ad c) D]] b _;refine aM hm LN ?_;refine bo λd S=> ?_;refine cV λh V k3 H=> ?_;have k4:=U.af P;have I:r≠d:=by rintro rfl;rw[P]at S;cases S
 have k5:=I.symm;have K:r≠h:=by rintro rfl;rw[P]at V;cases V
 have k6:=K.symm;refine aa ?_;rw[jq];have k7:=gd.all.1;have W: ∀a T,en a T->putAt eP 0 T=T:=λa T M=>(nG M).2.2.1;have k8:=gd.all.2.1;have k9:=W _ _ gd;generalize i:eP=e at*;have l0:b.sub ((b.set d (.cells [ak y,bb a,.J (bE z) C,.J (ad c) D])).set h (.cells e)):=U.ae (U.ae U.a1 S) V;have aH:((b.set d (.cells [ak y,bb a,.J (bE z) C,.J (ad c) D])).set h (.cells e)) d=some (.cells [ak y,bb a,.J (bE z) C,.J (ad c) D]):=by rw[U.ao _ _ H,U.ag]
 have aJ:=U.ag (b.set d (.cells [ak y,bb a,.J (bE z) C,.J (ad c) D])) h (.cells e);generalize (b.set d _).set h _=N at*;refine ai (find_spec x w A a B a9w N) ?_;rintro G _ ⟨rfl,o⟩;have l1:=U.af aH;have l2:=U.aI aJ;unfold Found at o;rw[i]at o;clear i;unfold mv
 dsimp only
 cases j:x.find? (λp=>decide (p.name=a))with
 |none=>
  rw[j]at o;obtain rfl:=o;refine aa ?_;refine aN λF k=> ?_;have f:F≠h:=by rintro rfl;rw[aJ]at k;cases k
  have O:=f.symm;exact aR
 |some p=>
  rw[j]at o;obtain⟨T,g,rfl⟩:=o;obtain⟨l3,l4,l5,_⟩:=g.all;have l6:=W _ _ g;have l:=λb=>te p T g b;clear W;refine aa ?_;refine aN λF k=> ?_;have f:F≠h:=by rintro rfl;rw[aJ]at k;cases k
  have O:=f.symm;have Q:F≠d:=by rintro rfl;rw[aH]at k;cases k
  have l7:=Q.symm;refine aa ?_;by_cases m:c.length=p.aD.length+1
  .have X:(c.length)=((p.aD.length+1:Nat):Int):=a9w
   dsimp only
   rw[if_pos m];refine bc (l _) ?_;simp_all
  .have X: ¬(c.length)=((p.aD.length+1:Nat):Int):=a9w
   dsimp only
   rw[if_neg m];refine bc (l _) ?_;simp_all
def a2n (a:U) (b c d:Nat) (h:ah) (k:List aL) (o:cR a b c d h k):
  AC Tryz.prog 26 [.ptr b 0] a λp r=>r=a/\p= .ptr c 0:=by
 obtain⟨y,z,x,C⟩:=o.x;have D:=U.af x;refine aM hm Kc ?_
 repeat' first|refine aG (λ_=> ?_) λ_=> ?_|trivial
def FY (a:U):AC Tryz.prog 29 [] a λx p=> ∃b c d,x= .ptr b 0/\a.sub p/\a b=none/\a c=none/\a d=none/\cR p b c d ah.new []:=by refine aM hm Ki ?_;refine ai (Y9 a) ?_;rintro _ C ⟨c,d,y,z,rfl,r,h⟩;refine aa ?_;refine aN λb k=> ?_;refine aa ?_;have o:=r.cG k;exact⟨_,U.a1,b,c,d,rfl,U.ae h (U.bI h k),U.bI h k,y,z,r.set o,⟨[],.nil,U.ag _ _ _,trivial⟩,o.1,o.2⟩
def a2o (c:U) (p x y:Nat) (z:ah) (a:List aL) (C:cR c p x y z a) (D: ∀h∈a,h.Fit) (k:cw a=true) (E: ∀h∈a,h.In):
  AC Tryz.prog 24 [.ptr p 0] c λo F=> ∃b d,bh c F 76 b d/\o= .J b d/\aA dw a b:=by
 obtain⟨b,d,G,L⟩:=C.x;have g:=U.af G;have i:=(kO k).2;refine aM hm K8 ?_;refine ai (zs a b d L D a9w c) ?_;rintro o P ⟨S,r⟩;rw[if_pos k]at r;obtain⟨T,rfl⟩:=r;refine aa ?_;refine ai (a2j a T P k E) ?_;rintro o j ⟨V,W,e,f,rfl⟩;refine aa ?_;exact⟨_,U.a1,V,W,e.base S,rfl,f⟩
def a2p (b:U) (d o p:Nat) (r:ah) (a:List aL) (x:cR b d o p r a) (y: ∀h∈a,h.Fit) (z:cw a=true) (C: ∀h∈a,h.In):
  AC Tryz.prog 24 [.ptr d 0] b λD E=>b.sub E/\ ∃c k,D= .J c k/\aA dw a c:=
 (a2o b d o p r a x y z C).mono λ_ _ ⟨c,k,F,G⟩=>⟨F.sub,c,k,G⟩
variable{A j2:ay}
theorem en.FZ (b:en e7 g) (a:A.sum.length=32) (c:A.cz):en ⟨e7.name,e7.aD,A,e7.cq⟩ (putAt g 2 (ab A M e6 h4)):=by obtain⟨⟨d,h,k,o,p,r,x,rfl⟩,⟨y,D⟩,z,C⟩:=b;have E:=(aW (M:=h) (e6:=k) (h4:=o) y).len;have F:=(aW (M:=M) (e6:=e6) (h4:=h4) a).len;refine⟨⟨d,M,e6,h4,p,r,x,?_⟩,⟨a,c⟩,z,C⟩;grind[putAt,ab,List.drop_left']
theorem en.G0 (k:en e7 g) (a:A.sum.length=32) (o:A.cz):en ⟨e7.name,e7.aD,e7.bM,A⟩ (putAt g 39 (ab A M e6 h4)):=by obtain⟨⟨p,b,c,d,r,x,y,rfl⟩,⟨h,z⟩,⟨C,E⟩,D⟩:=k;have F:=(aW (M:=b) (e6:=c) (h4:=d) h).len;have G:=(aW (M:=M) (e6:=e6) (h4:=h4) a).len;have L:=(aW (M:=r) (e6:=x) (h4:=y) C).len;refine⟨⟨p,b,c,d,M,e6,h4,?_⟩,⟨h,z⟩,⟨a,o⟩,D⟩;grind[putAt,ab,List.take_left',List.drop_eq_nil_of_le,List.length_append]
def fD (p r:ah->Except Int ay×ah) (x:ah) (a:List aL) (b:aL):Int×List aL×ah:=match p x with
 |(.error c,d)=>(c,a,d)
 |(.ok k,d)=>match r d with
  |(.error c,h)=>(c,a,h)
  |(.ok o,h)=>((iO (kf a ⟨b.name,b.aD,k,o⟩) a).1,(iO (kf a ⟨b.name,b.aD,k,o⟩) a).2,h)
def jr (a c:Nat) (h:FuncId) (k:ah->Except Int ay×ah) (o:ay) (p:List Int) (r:Nat):Prop:=
 ∀(b:U) (d:ah) (x y z C:Own),bB b a c d->AC Tryz.prog h [.ptr a 0,.agg (ab o x y z),.J (ad p) C,.v (.int .i64 (r:Int))] b λD E=>yW b E a c (k d) D
theorem G1 (G:U) (h T V:Nat) (y:ah) (b:List aL) (d:cR G h T V y b) (n9: ∀a∈b,a.Fit) (a00:b.length<=1000) (a:aL) (e:List R) (O:en a e) (Q:a.Fit) (X:List Int) (Y:Own) (Z j9:FuncId) (L P:ah->Except Int ay×ah)
  (a01:gf Tryz.prog Z=true) (a02:gf Tryz.prog j9=true) (k0:jr T V Z L a.bM X (a.aD.length+1)) (k1:jr T V j9 P a.cq X (a.aD.length+1)):
  AC Tryz.prog 83 [.ptr h 0,.agg e,.J (ad X) Y,.bF Z [] [],.bF j9 [] []] G λu l0=>u= .v (.int .i64 (fD L P y b a).1)/\cR l0 h T V (fD L P y b a).2.2 (fD L P y b a).2.1/\cD h T V G l0:=by
 obtain⟨v,S,k2,w⟩:=d.x;have a74:=U.af k2;obtain⟨a81,a83,a84,a86,a03,a04,a05,a06,a07,a08,a88,a89,a90⟩:=O.all;have a09:=λG=>te a e O G;have c:(match L y with
  |(.error f,g)=>(f,b,g)
  |(.ok A,g)=>match P g with
   |(.error f,j)=>(f,b,j)
   |(.ok B,j)=>((iO (kf b ⟨a.name,a.aD,A,B⟩) b).1,(iO (kf b ⟨a.name,a.aD,A,B⟩) b).2,j))=fD L P y b a:=rfl
 generalize fD L P y b a=a92 at*;refine aM hm LP ?_;refine bo λz l=> ?_;have l1:h≠z:=by rintro rfl;rw[k2]at l;cases l
 have a94:=l1.symm;have k3:=U.ae (Y:= .cells e) (U.a1) l;have bs:=U.ag G z (.cells e);refine bc (a09 _) ?_;have m:=d.hb.cG l;generalize G.set z _=a10 at*;have a11:=d.hb.mono k3;have a13:=k3 _ _ k2;refine fH a01 (k0 a10 y a03 a04 a05 Y a11) ?_;rintro u l2 ⟨n,k4,l3⟩;have ca:=k4 _ _ d.nH d.nI a13;have k5:=k4 _ _ m.1 m.2 bs;have l4:=cD.trans (cD.of (e:=h) k3) (cD.ext k4);generalize L y=a14 at*;obtain⟨a15,g⟩:=a14;cases a15 with
 |error f=>
  obtain⟨l5,a16,C,D,E,q,rfl⟩:=l3
  dsimp only at c n
  have a18:=(aW (M:=C) (e6:=D) (h4:=E) q).all;have H:=lz (M:=C) (e6:=D) (h4:=E) q;refine aa ?_;refine aN λi k=> ?_;refine aa ?_;refine⟨_,U.a1,by rw[<-c],?_,l4.trans (cD.of (U.ae U.a1 k))⟩;rw[<-c];exact⟨n.mono (U.ae U.a1 k),⟨v,S,U.ae U.a1 k _ _ ca,w⟩,d.nH,d.nI⟩
 |ok s=>
  obtain⟨k6,a19,C,D,E,rfl⟩:=l3
  dsimp only at c n
  have a95:=(aW (M:=C) (e6:=D) (h4:=E) k6).all;have H:=lz (M:=C) (e6:=D) (h4:=E) k6;refine aa ?_;refine aN λi k=> ?_;have a27:h≠i:=by rintro rfl;rw[ca]at k;cases k
  have a96:=a27.symm;have a29:z≠i:=by rintro rfl;rw[k5]at k;cases k
  have a97:=a29.symm;have fY:=U.af ca;have a30:=U.af k5;refine aa ?_;have I:=U.ae (Y:= .cells (ab s C D E)) (U.a1) k;have gU:=U.ag l2 i (.cells (ab s C D E));have de:=I _ _ ca;have a34:=I _ _ k5;have a36:=n.mono I;have l6:=n.cG k;have a38:=l4.trans (cD.of I);generalize l2.set i _=a42 at*;clear fY a30 H;refine fH a02 (k1 a42 g a06 a07 a08 Y a36) ?_;rintro u t ⟨K,M,l7⟩;have ek:=M _ _ d.nH d.nI de;have l8:=M _ _ m.1 m.2 a34;have a43:=M _ _ l6.1 l6.2 gU;have l9:=a38.trans (cD.ext M);generalize P g=a47 at*;obtain⟨cE,j⟩:=a47;cases cE with
  |error f=>
   obtain⟨l5,a16,o,p,r,q,rfl⟩:=l7
   dsimp only at c K
   have a18:=(aW (M:=o) (e6:=p) (h4:=r) q).all;have H:=lz (M:=o) (e6:=p) (h4:=r) q;refine aa ?_;refine aN λF x=> ?_;refine aa ?_;refine⟨_,U.a1,by rw[<-c],?_,l9.trans (cD.of (U.ae U.a1 x))⟩;rw[<-c];exact⟨K.mono (U.ae U.a1 x),⟨v,S,U.ae U.a1 x _ _ ek,w⟩,d.nH,d.nI⟩
  |ok cc=>
   obtain⟨k7,a48,o,p,r,rfl⟩:=l7
   dsimp only at c K
   have a98:=(aW (M:=o) (e6:=p) (h4:=r) k7).all;have H:=lz (M:=o) (e6:=p) (h4:=r) k7;refine aa ?_;refine aN λF x=> ?_;have a52:z≠F:=by rintro rfl;rw[l8]at x;cases x
   have a99:=a52.symm;have a56:i≠F:=by grind
   have b00:=a56.symm;have a57:h≠F:=by rintro rfl;rw[ek]at x;cases x
   have b01:=a57.symm;have b02:=U.af a43;have b03:=U.aI l8;have n0:=O.FZ (M:=C) (e6:=D) (h4:=E) k6 a19;have k8:=n0.G0 (M:=o) (e6:=p) (h4:=r) k7 a48;have b04:=n0.all.1;have b05:=k8.all.1;have b06:=k8.all.2.1;have n1:=a2e b v S ⟨a.name,a.aD,s,cc⟩ _ k8 ⟨Q.n,Q.c,Q.cs⟩ w n9 a00;have fY:=U.af ek;have b07: ∀W S,W≠F->t W=some S->(t.set F (.cells (ab cc o p r))) W=some S:=λW S a61 k1=>by rw[U.ao _ _ a61];exact k1
   refine aa ?_;generalize putAt (putAt e 2 (ab s C D E)) 39 (ab cc o p r)=n2 at*;have a62:cR ((t.set F (.cells (ab cc o p r))).set z (.cells n2)) h T V j b:=⟨(K.mono (U.ae U.a1 x)).set m,⟨v,S,by rw[U.ao _ _ l1];simp_all,w⟩,d.nH,d.nI⟩;have a63:cD h T V G ((t.set F (.cells (ab cc o p r))).set z (.cells n2)):=λW a65 A B a68 k9=>by
    have k0:W≠z:=by rintro rfl;rw[l]at k9;cases k9
    rw[U.ao _ _ k0];exact U.ae U.a1 x _ _ (l9 W a65 A B a68 k9)
   generalize (t.set F _).set z _=a69 at*;refine ai (n1 a69) ?_;clear n1;rintro u b08 ⟨n3,N⟩;have n4:=a62.sub n3;obtain⟨b09,b10,ei,b11⟩:=n4.x;have b12:=U.aI ei;have a71:=a63.trans (cD.of n3);cases n5:kf b ⟨a.name,a.aD,s,cc⟩with
   |error f=>
    rw[n5]at N c;obtain⟨l5,rfl⟩:=N
    dsimp only[iO]at c
    refine aa ?_;grind
   |ok b13=>
    rw[n5]at N c;obtain⟨b14,a73,rfl⟩:=N
    dsimp only[iO]at c
    refine aa ?_;exact⟨_,U.a1,by rw[<-c],by rw[<-c];exact n4.put a73,a71.zu⟩
def vk (a:e1.find? (λe7=>decide (e7.name=w))=some e7):e7∈e1:=List.mem_of_find?_eq_some a
def jr.a2q (c:A.sum.length=32) (d:A.cz) (h:A.size<=2000000) (k:1<=e) (o:e<=8) (p:q.length=e):jr i v 84 (λa=>nD e q a A) A q e:=
 λr a x y z C D=>(a1B r i v a D A x y z c d h q C e k o p).mono λE F b=>⟨b.1,b.2.1,b.2.2.x⟩
def jr.a2r (b:A.sum.length=32) (c:A.cz) (d:A.size<=2000000) (h:1<=e) (k:e<=8) (o:q.length=e):jr i v 86 (λa=>iN e q a A) A q e:=
 λp a r x y z C=>a1E p i v a C A r x y b c d q z e h k o
def jr.a2s (c:A.sum.length=32) (d:A.cz) (h:1<=e) (k:e<=8) (o:q.length=e):jr i v 85 (λa=>jg e q a A) A q e:=
 λp a r x y z C=>(YZ p i v a C A r x y c d q z e h k o).mono λD E b=>⟨b.1,b.2.1,b.2.2.x⟩
def jr.a2t (c:A.sum.length=32) (d:A.cz) (h:1<=e) (k:e<=8) (o:q.length=e):jr i v 87 (λa=>lo e q a A) A q e:=
 λp a r x y z C=>(Z7 p i v a C A r x y c d q z e h k o).mono λD E b=>⟨b.1,b.2.1,b.2.2.x⟩
def js (a:ah) (c:List aL) (d:cB):Int×List aL×ah:=match mv c d with
 |(_,none)=>(3,c,a)
 |(h,some b)=>if h=0 then fD (λa=>iN (b.aD.length+1) d.row a b.bM) (λa=>lo (b.aD.length+1) d.row a b.cq) a c b else(h,c,a)
theorem a2u (x:U) (p y z:Nat) (c:ah) (d:List aL) (e:cR x p y z c d) (f: ∀b∈d,b.Fit) (s:cw d=true) (a:cN) (t:a.d.Fit):
  AC Tryz.prog 50 [.ptr p 0,a.V] x λE C=>E= .v (.int .i64 (js c d a.d).1)/\cR C p y z (js c d a.d).2.2 (js c d a.d).2.1/\cD p y z x C:=by
 obtain⟨u,k3⟩:=kO s;have h:(match mv d a.d with
  |(_,none)=>(3,d,c)
  |(g,some b)=>if g=0 then fD (λc=>iN (b.aD.length+1) a.d.row c b.bM) (λc=>lo (b.aD.length+1) a.d.row c b.cq) c d b else(g,d,c))=js c d a.d:=rfl
 generalize js c d a.d=k4 at*;have i:=λC F=>FX C p y z c d F a9w a t;have j:a.V= .agg [ak a.d.kind,bb a.d.table,.J (bE a.d.aD) a.gv,.J (ad a.d.row) a.dn]:=rfl;obtain⟨k5,k6,v,k7⟩:=e.x;rw[j]at i|-;clear j;have k8:=U.af v;have k9:=gd.all.1;refine aM hm KQ ?_;refine bo λG w=> ?_;have l:=U.ae (Y:= .cells [ak a.d.kind,bb a.d.table,.J (bE a.d.aD) a.gv,.J (ad a.d.row) a.dn]) (U.a1) w;have aH:=U.ag x G (.cells [ak a.d.kind,bb a.d.table,.J (bE a.d.aD) a.gv,.J (ad a.d.row) a.dn]);generalize x.set G _=A at*;have m:=e.sub l;refine ai (i A m) ?_;rintro E l0 ⟨L,k⟩;have n:=L _ _ aH;have l1:=U.af n;have B:=m.sub L;have H:=U.ar l L;have P: ∀b T,en b T->putAt eP 0 T=T:=λb T F=>(nG F).2.2.1;have l2:=gd.all.2.1;have l3:=P _ _ gd;have S:=jq;generalize eP=l4 at*;unfold mv at k h;cases V:d.find? (λb=>decide (b.name=a.d.table))with
 |none=>
  rw[V]at k h
  dsimp only at k h
  obtain rfl:=k;refine aa ?_;refine aN λW r=> ?_;rw[S];refine aa ?_;grind[U.a1,U.ae,cD.of,U.ar]
 |some b=>
  rw[V]at k h;have hm:=vk V
  dsimp only at k h
  by_cases D:a.d.row.length=b.aD.length+1
  .rw[if_pos D]at k h;obtain⟨T,o,rfl⟩:=k;obtain⟨I,K,M,_⟩:=o.all;have N:=P _ _ o;refine aa ?_;refine aN λW r=> ?_;rw[S]
   dsimp only at h
   rw[if_pos rfl]at h;have O:G≠W:=by rintro rfl;rw[n]at r;cases r
   have l5:=O.symm;obtain⟨Q,X⟩:=o.k;obtain⟨Y,Z⟩:=o.z;have q:=u b hm;have l6:=q.c;have l7:=q.k.size;have j9:=B.sub (U.ae (Y:= .cells T) U.a1 r);have k0:=G1 _ p y z c d j9 f a9w b T o (f b hm) a.d.row a.dn 86 87 _ _ a9B a9B (jr.a2r Q X a9w a9w a9w D) (jr.a2t Y Z a9w a9w D);refine aa ?_;refine ai k0 ?_;rintro E l8 ⟨rfl,k1,k2⟩;refine aa ?_;exact⟨_,U.a1,by rw[<-h];exact k1,(cD.of (U.ar H (U.ae U.a1 r))).trans k2⟩
  .rw[if_neg D]at k h;obtain⟨T,o,rfl⟩:=k;obtain⟨I,K,M,_⟩:=o.all;have N:=P _ _ o;refine aa ?_;refine aN λW r=> ?_;rw[S];refine aa ?_
   dsimp only at h
   rw[if_neg a9A]at h;grind[U.a1,U.ae,cD.of,U.ar]
def vl (d:ah) (h:List aL) (k:List UInt8) (o:List (List Int)) (b:R):Prop:=match h.find? (λa=>decide (a.name=k))with
 |none=>b= .aK [.J [] .nil,.v (.int .i64 3)]
 |some a=>match ec d (a.aD.length+1) (a.bM.size.toNat+1) a.bM with
  |none=>b= .aK [.J [] .nil,.v (.int .i64 21)]
  |some _=> ∃c,b= .aK [.J c .any,.v (.int .i64 0)]/\aA isRow o c
def a2v (c:U) (D L P:Nat) (h:ah) (d:List aL) (S:cR c D L P h d) (l:cw d=true) (k:List UInt8) (r:List (List Int))
  (m: ∀a o,d.find? (λa=>decide (a.name=k))=some a->ec h (a.aD.length+1) (a.bM.size.toNat+1) a.bM=some o->r.Perm o/\r.Pairwise λn q=> ¬fO q n<0):
  AC Tryz.prog 27 [.ptr D 0,bb k] c λE F=>c.sub F/\vl h d k r E:=by
 obtain⟨s,Y⟩:=kO l;obtain⟨t,u,V,v⟩:=S.x;have Z:=U.af V;have j9:=gd.all.1;have W: ∀a T,en a T->putAt eP 0 T=T:=λa T p=>(nG p).2.2.1;have k0:=W _ _ gd;have e:=jq;have b:=find_spec d t u k v a9w c;unfold Found at b;unfold vl;generalize eP=k1 at*;refine aM hm Ke ?_;refine ai b ?_;clear b;rintro E k2 ⟨rfl,b⟩;cases x:d.find? (λa=>decide (a.name=k))with
 |none=>rw[x]at b;obtain rfl:=b;refine aa ?_;refine aN λf y=> ?_;rw[e];exact aR
 |some a=>
  rw[x]at b;obtain⟨T,z,rfl⟩:=b;obtain⟨k3,k4,k5,k6,w,A,B,k7,k8,k9,l0,l1,l2⟩:=z.all;have l3:=W _ _ z;have H:=λc=>te a T z c;have hm:=vk x;have g:=s a hm;have l4:=g.c;have l5:=g.k.size;refine aa ?_;refine aN λf y=> ?_;rw[e];have I:D≠f:=by rintro rfl;rw[V]at y;cases y
  have l6:=I.symm;have G:=U.ae (Y:= .cells T) (U.a1) y;have K:=S.sub G;obtain⟨M,N⟩:=z.k;have O:=λF p=>a1H F L P h p a.bM w A B M N a9w (a.aD.length+1) a9w a9w r (λo p=>m a o x p);refine aa ?_;refine bc (H _) ?_;refine ai (O _ K.hb) ?_;rintro E l7 ⟨i,C⟩
  dsimp only
  cases j:ec h (a.aD.length+1) (a.bM.size.toNat+1) a.bM with
  |none=>rw[j]at C;obtain rfl:=C;refine aa ?_;exact U.ar G i
  |some o=>rw[j]at C;obtain⟨Q,rfl,X⟩:=C;refine aa ?_;exact⟨U.ar G i,Q,rfl,X⟩
structure vm (c:ah) (d:Nat) (aU aV:List Int) (a:ay) (rows:List (List Int)):Prop where
 one:rows.length<=1
 sound: ∀b∈rows,nB c d aU aV a b
 full:rows= []->ev aU aV a=true-> ∀b,¬nB c d aU aV a b
def vn (a:ah) (b:Nat) (c d:List Int) (h:ay):Prop:= ∃k,mq a b c d h k/\ev c d h=true/\fm a b k=none
structure zv where
 rows:List (List Int)
 us:List R
 L:R
 bH:List ay
 es:List R
 oI:R
structure vo (c:ah) (d:Nat) (aU aV:List Int) (b:ay) (A:ig) (B:U) (h:Nat) (x:zv) (o:U):Prop where
 at_:dF A B o h x.us x.L x.es x.oI
 vp:aA isRow x.rows x.us
 rd: ∀a∈x.rows,a.length=d
 zw:x.rows.length<=1
 pP:aA r7 x.bH x.es
 qB: ∀a∈x.rows,nB c d aU aV b a
 or: ∀k∈x.bH,mq c d aU aV b k/\ev aU aV b=true/\1<=gB k
 co:x.rows= []->ev aU aV b=true-> ∀a,nB c d aU aV b a-> ∃k∈x.bH,nB c d aU aV k a
 qz:(x.bH.map gB).sum<=2097152
variable{b9:c3}
def mq.snoc {a:ay} (c:mq H e q b6 j2 a) (b:fm H e a=some b9) (d:A∈b9.kids) (h:ev q b6 A=true):mq H e q b6 j2 A:=by
 induction c with
 |refl p=>exact .step b d h (.refl _)
 |step h1 k o _ ih=>exact .step h1 k o (ih b)
theorem zx: ∀ {ks:List ay},(∀a∈ks,1<=gB a)->ks.length<=(ks.map gB).sum
 | [],_=>a5z _
 |a::ks,b=>by
  have:=zx (ks:=ks) λa c=>b a (by simp[c]);grind
def vo.len {c:ah}{d:Nat}{h k:List Int}{o:ay}{p:ig}{r:U}{x:Nat}{b:zv}{y:U} (a:vo c d h k o p r x b y):b.es.length<=2097152:=by rw[a.pP.len];exact a5R (zx λz C=>(a.or z C).2.2) a.qz
theorem a2w (Z:U) (k5 b00:Nat) (m:ah) (b50:bB Z k5 b00 m) (D:ay) (n1 n2 n3:Own) (b01:D.sum.length=32) (b51:D.cz) (p x:List Int) (n4 n5 n9:Own) (F:Nat) (t:cO p x F=true) (c29:D.size<=1048576) (b02:ev p x D=true->1<=D.size):
  AC Tryz.prog 38 [.ptr k5 0,.agg (ab D n1 n2 n3),.agg (oH p x n4 n5 n9),.v (.int .i64 (F:Int))] Z λa30 E=>Z.sub E/\
   ((vn m F p x D/\ ∃c f,a30= .aK [.agg [c,f],.v (.int .i64 0),.v (.int .i64 21)])\/
   ∃rows I y u v,vm m F p x D rows/\av Z E 1 I y/\aA isRow rows I/\(∀h∈rows,h.length=F)/\a30= .aK [.agg [y,.v (.int .i64 u)],.v (.int .i64 v),.v (.int .i64 0)]):=by
 obtain⟨b03,c30,b04,a34⟩:=lk t;have b52:=(aW (M:=n1) (e6:=n2) (h4:=n3) b01).all;refine aM hm Ku ?_;refine bo λa36 c31=> ?_;refine cV λb05 c32 c33 c34=> ?_;refine hs λa00 a38 c35 c2 aH aJ=> ?_;generalize k6:((Z.set a36 _).set b05 _).set a00 _=g;have a01:Z.sub g:=by subst k6;exact aR
 have bm:g a36=some (.cells (ab D n1 n2 n3)):=by subst k6;exact aR
 have bs:g b05=some (.cells (oH p x n4 n5 n9)):=by subst k6;exact aR
 have bt:g a00=some (.cells [.J [] .nil,.v (.int .i64 0)]):=by subst k6;exact aR
 clear k6;have b53:=b50.mono a01;refine bc (a1m p x _ _ _ F a9w g) ?_;rw[t];have b54:=U.af bm;have b55:=U.af bs;refine aa ?_;refine aN λd j9=> ?_;have b06:a36≠d:=by rintro rfl;rw[j9]at bm;cases bm
 have b56:=b06.symm;have b57:a00≠d:=by rintro rfl;rw[j9]at bt;cases bt
 have c36:=b57.symm;refine aa ?_
 let a:ig:=⟨k5,p,x,n4,n5,n9,F⟩;have b07:dF a g (g.set d (.cells (ly k5 p x n4 n5 n9 F (.J [] .nil) 0 0 0 (.J [] .nil)))) d [] (.J [] .nil) [] (.J [] .nil):=
  ⟨j9,⟨0,0,0,U.ag _ _ _⟩,av.nil (U.ae U.a1 j9),⟨U.ae U.a1 j9,(λ_ b=>by cases b),.inl ⟨rfl,.inl rfl⟩⟩,(λb=>by cases b),(λb=>by cases b),λ_ b=>by cases b⟩
 refine ai (Fq a g _ d [] _ [] _ b07 D n1 n2 n3 b01 b51 (by show p.length<=8;omega) a9x) ?_;rintro _ b58 ⟨b59,b60,a42,k0⟩;have a02: ∃b08,vo m F p x D a g d ⟨[],[],.J [] .nil,b08,b60,b59⟩ b58:=by
  have c37:gB D<=2097152:=by unfold gB;omega
  split at k0
  .rename_i w;obtain⟨b61,a43,rfl⟩:=k0;exact⟨[D],a42,trivial,(λ_ b=>by cases b),a5C _,⟨a43,trivial⟩,(λ_ b=>by cases b),(λz a47=>by
    obtain rfl:=a5p.1 a47;have:=b02 w;exact⟨.refl _,w,by unfold gB;omega⟩),(λ_ _ h r=>⟨D,a9x,r⟩),by trivial⟩
  .rename_i w;subst k0;exact⟨[],a42,trivial,(λ_ b=>by cases b),a5C _,trivial,(λ_ b=>by cases b),(λ_ b=>by cases b),(λ_ b=>absurd b w),a5C _⟩
 obtain⟨b08,a02⟩:=a02;refine aa ?_;refine ch [0,3,8,11] (λ_:zv=> []) (λc E=>vo m F p x D a g d c E) (λc=>(c.bH.map gB).sum) _ ⟨a02,aR⟩ ?_;clear a02 a42 k0 b07 b54 b55 b06 b56 bm bs b52 j9;rintro⟨rows,I,y,b09,a48,c38⟩ E o c39;have i:=o.at_
 dsimp only at i
 have c40:=i;obtain⟨u,v,k7,b10⟩:=i.x;obtain⟨c41,c42⟩:=i.w.len;have fY:=U.af b10;refine aa ?_;refine aG (λa03=> ?_) λa03=> ?_;rotate_left;have a52:=o.pP.len
 .have c43:=a03;have b11:a48= []:=a4Z a9w;have b62:b09= []:=a4Z (by rw[b11]at a52;exact a52.symm);subst b11;subst b62;have b63:=U.aI (i.l.1 _ _ bt);have c44:=fJ i.l;refine aa ?_;refine⟨_,U.a1,U.ae (U.ar a01 i.l.1) a38,.inr ⟨rows,I,y,u,v,⟨o.zw,o.qB,λT A h r=> ?_⟩,av.other (i.l.base a01) a38 (λG=> ?_),o.vp,o.rd,rfl⟩⟩
  .obtain⟨z,a47,_⟩:=o.co T A h r;cases a47
  .have:=av.fresh i.l G;rw[bt]at this;cases this
 have a52:=o.pP.len;have b64:a48≠ []:=by grind
 obtain⟨b12,b13,post,b14,b15,c45,b16⟩:=i.sort b64;obtain⟨c46,b17⟩:=oG.of (s:=E) (l:=b12) (g:=b13) (B:=post) (e0:=a48) (b5:=71) (ds:= []) a9C λa04 a56 a57 t=>by
  obtain⟨z,_,T⟩:=o.pP.mem a56;obtain⟨B,_,A⟩:=o.pP.mem t;obtain⟨a03,b65⟩:=a1l T A;exact⟨a03,λa61 _=>b65 _⟩
 rw[b14];clear fY b14;refine ai (Fh a1f a0Z a0V a0X a0T a0R a9w rfl b15 (a5R o.len a9w) b17 λG K=> ?_) ?_
 .obtain⟨z,_,T,_,L,P,S,c,f,id,b66,rfl⟩:=o.pP.mem K;obtain⟨M,N,_⟩:=uW (M:=L) (e6:=P) (h4:=S) (e:=c) (i:=f) (id:=id) (b1:=b66) T;exact⟨M,by rw[hL,aX,if_pos rfl,N]⟩
 rintro _ _ ⟨a61,k1,rfl⟩;have k8:=b16 a61 k1;obtain⟨b67,k9,b68⟩:=o.pP.perm k1
 match a61,b67,b68,k1,k9,k8 with
 | [],_,_,k1,_,_=>exact absurd k1.length_eq (by simp_all)
 |G::k2,z::O,⟨b69,b18⟩,k1,k9,k8=>
 obtain⟨u,v,k7,a62⟩:=k8.x;obtain⟨C,c47,c48,a63,c49,c50,b70,b19⟩:=k8.tail;generalize W E b12 b13 post (G::k2)=a05 at*;have fY:=U.af a62;have a65:=U.aI a62;clear b16 b17 b15 b10;obtain⟨l0,b71,L,P,S,b72,b73,b74,b75,rfl⟩:=b69;have b20:=(uW (M:=L) (e6:=P) (h4:=S) (e:=b72) (i:=b73) (id:=b74) (b1:=b75) l0).2.2.1;rw[hL,b20]at b19;have c51:=(aW (M:=L) (e6:=P) (h4:=S) l0).all;have b21:=lz (M:=L) (e6:=P) (h4:=S) l0;refine aa ?_;refine aN λk3 a68=> ?_;have b22:d≠k3:=by rintro rfl;rw[a62]at a68;cases a68
 have b23:=b22.symm;refine aa ?_;have a69:(a05.set d (.cells (ly a.gA a.aU a.aV a.hx a.eV a.hv a.d y u v k7 C))) k3=none:=(U.ao _ _ b23).trans a68;have b24:=(a63 u v k7).fresh a69;have b25:=(a63 u v k7).mono (U.ae (Y:= .cells (ab z L P S)) U.a1 a69);rw[U.dZ a05 b22]at b25;have gU:((a05.set k3 (.cells (ab z L P S))).set d (.cells (ly a.gA a.aU a.aV a.hx a.eV a.hv a.d y u v k7 C))) k3=some (.cells (ab z L P S)):=(U.ao _ _ b23).trans (U.ag _ _ _);generalize (a05.set k3 (.cells (ab z L P S))).set d _=a71 at*;clear a69 a63 b70 b19 b20 a65 fY k8 b21;obtain⟨b76,l1⟩:=b25.wide;have b77:res (kc d y C) a71 k3=some (.cells (ab z L P S)):=by
  rw[oJ];exact gU;rintro(b|b|b)
  .omega
  .exact b24.l b
  .exact b24.w b
 generalize res (kc d y C) a71=b78 at*;have c52:(b09.map gB).sum=gB z+(O.map gB).sum:=by rw[<-(k9.map gB).sum_nat];simp
 have Q:=λB j=>o.or B (k9.mem_iff.1 j);have b79:=o.qz
 dsimp only at b79
 refine ai (a1u a b78 a71 d I rows y k2 C b76 o.vp o.rd a34 b03 z L P S l0) ?_;rintro _ b26 ⟨n,a57,rfl,b80⟩;have b81:=U.af (n.l.1 _ _ b77);refine aa ?_;refine aG (λt=> ?_) λt=> ?_
 .have b02:=b80 t;refine⟨⟨rows,I,y,O,k2,C⟩,⟨n.base l1,o.vp,o.rd,o.zw,b18,o.qB,λB j=>Q B (by simp[j]),λb=> ?_,?_⟩,?_⟩;simp_all
  .show(O.map gB).sum<= _;omega
  grind
 have b27:=(b53.mono l1).mono n.l.1;refine ai (xz b26 k5 b00 m b27 z L P S l0 b71 F b04 a34) ?_;rintro a30 X ⟨a73,a06⟩;cases H:fm m F z with
 |none=>
  rw[H]at a06;obtain rfl:=a06;have b28:=a73 _ _ (n.l.1 _ _ (l1 _ _ bt));refine aa ?_;refine aN λl q=> ?_;have b82:a00≠l:=by rintro rfl;rw[b28]at q;cases q
  have c53:=b82.symm;have b63:=U.aI b28;refine aa ?_;have b29:=U.ar a01 (U.ar l1 (U.ar n.l.1 a73));refine⟨_,U.a1,U.ae (U.ae b29 (U.bI b29 q)) a38,.inl ⟨⟨z,(Q z a9x).1,(Q z a9x).2.1,H⟩,_,_,rfl⟩⟩
 |some k=>
  rw[H]at a06;obtain⟨c,f,rfl,c54,c55,c56,k4,l2,a07,a74,_,_⟩:=a06;have a08:=n.mono a73;obtain⟨l3,Y,l4,a09⟩:=a08.x;have c57:=fJ k4;have c58:=fJ l2;refine aa ?_;refine aN λl q=> ?_;have b30:d≠l:=by rintro rfl;rw[a09]at q;cases q
  have b31:=b30.symm;have fY:=U.af a09;have a65:=U.aI a09;have a56:bn .add (.int .i64 Y) (.int .i64 1)=some (.int .i64 (IntKind.i64.wrap (Y+1))):=rfl;have b32:=bR.dJ k4 a9w rfl (a07.cells λ_ _=>dd.cells);have b83:=b32.len;rw[a07.len]at b83;have a81:(X.set d (.cells (ly a.gA a.aU a.aV a.hx a.eV a.hv a.d y l3 (IntKind.i64.wrap (Y+1)) l4 C))) l=none:=(U.ao _ _ b31).trans q;have a83:=(a08.set l3 (IntKind.i64.wrap (Y+1)) l4).mono (U.ae (Y:= .cells [.v (.int .u8 (k.kind.toNat)),c,f]) U.a1 a81);rw[U.dZ X b30]at a83;refine aa ?_;have lf:((X.set l (.cells [.v (.int .u8 (k.kind.toNat)),c,f])).set d (.cells (ly a.gA a.aU a.aV a.hx a.eV a.hv a.d y l3 (IntKind.i64.wrap (Y+1)) l4 C))) l=some (.cells [.v (.int .u8 (k.kind.toNat)),c,f]):=(U.ao _ _ b31).trans (U.ag _ _ _);have b33:=(a08.set l3 (IntKind.i64.wrap (Y+1)) l4).fresh a81;have b84: ∀h a10,X h=some a10-> ¬kc d y C h->((X.set l (.cells [.v (.int .u8 (k.kind.toNat)),c,f])).set d (.cells (ly a.gA a.aU a.aV a.hx a.eV a.hv a.d y l3 (IntKind.i64.wrap (Y+1)) l4 C))) h=some a10:=λh a10 r hm=>by
   have L:h≠d:=λG=>hm (.inl G);have P:h≠l:=by rintro rfl;rw[q]at r;cases r
   rw[U.ao _ _ L,U.ao _ _ P];exact r
  generalize (X.set l (.cells [.v (.int .u8 (k.kind.toNat)),c,f])).set d _=a84 at*;have a86: ∀ {a04:R}{h:Nat},cK a04=some h->b26 h=none-> ¬kc d y C h:=λt r hm=>by
   rcases hm with rfl|G|G
   .obtain⟨_,_,_,b⟩:=n.x;rw[r]at b;cases b
   .exact av.has n.l G r
   .exact n.w.has G r
  have a88:(res (kc d y C) X).sub (res (kc d y C) a84):=λh a10 r=>by
   grind[hm,kc,rb,oJ]
  have b85:=(bR.dJ (av.res k4 λl5 V=>a86 V (av.fresh k4 V)) a9w rfl (a07.cells λ_ _=>dd.cells)).mono (U.ar (Ft l2.1) a88);have b34:=(bR.dJ (av.res l2 λl5 V=>a86 V (U.bI k4.1 (av.fresh l2 V))) a9w rfl (a74.cells λ_ _=>bu.cells)).mono a88;obtain⟨b86,b87⟩:=a83.wide;have b88:res (kc d y C) a84 l=some (.cells [.v (.int .u8 (k.kind.toNat:Int)),c,f]):=by
   rw[oJ];exact lf;rintro(b|b|b)
   .trivial
   .exact b33.l b
   .exact b33.w b
  generalize res (kc d y C) a84=l6 at*;have b89:=U.ar l1 b87;clear b84 a86 a88 b32 k4 l2 fY a65 a09 a08 a83 lf a56 q a81 b27 b81;have b35:=(xS H).ok;obtain⟨b90,_,_⟩:=lh b35;refine ch [0,3,8,11,13,79,80] (λc:Nat×(List (List Int))×List R×R=> [(81,.v (.int .i64 (c.1)))]) (λc E=>c.1<=k.rows.length/\dF a l6 E d c.2.2.1 c.2.2.2 k2 C/\aA isRow c.2.1 c.2.2.1/\(∀h∈c.2.1,h.length=F)/\c.2.1.length<=1/\(∀h∈c.2.1,nB m F p x D h)/\(c.2.1= []->rows= []/\ ∀h,(h,true)∈k.rows.take c.1->ji p x h=false)) (λc=>k.rows.length - c.1) (0,rows,I,y) ⟨⟨a5C _,b86,o.vp,o.rd,o.zw,o.qB,λb=>⟨b,λh r=>by simp at r⟩⟩,aR⟩ ?_;rintro⟨e,b36,a11,a13⟩ b91 ⟨b92,l7,a89,l8,a14,a15,a16⟩ c59
  dsimp only at b92 l7 a89 l8 a14 a15 a16
  refine aa ?_;refine aG (λc2=> ?_) λc2=> ?_
  .have a90:e<k.rows.length:=a9w;obtain⟨_,K,a92,rfl⟩:=a07.get (i:=e) (x:=k.rows.getD e ([],false)) (by simp_all);obtain⟨l5,b93,V⟩:=b85.get e _ K;have b37: ∀E,l6.sub E->dp true 2 E l5=some (.agg [.J (ad (k.rows.getD e ([],false)).1) a92,.v (.bool (k.rows.getD e ([],false)).2)]):=λE b=>V.ld E b true 2 a9w (by simp[hL]);have b94:=b37 b91 l7.l.1;have hm:k.rows.getD e ([],false)∈k.rows:=by simp_all
   have G:=eS (b:=([],false)) a90;generalize k.rows.getD e ([],false)=b95 at*;obtain⟨a18,a94⟩:=b95
   dsimp only at b94 G hm
   have b38:=b90 _ hm;clear b37 V K;refine aa ?_;refine aN λc60 b96=> ?_;have b97:=l7.mono (U.ae (Y:= .cells [.J (ad a18) a92,.v (.bool a94)]) U.a1 b96);refine aa ?_;refine ai (a1t a l6 _ d a11 b36 a13 k2 C b97 a89 l8 b04 a34 b03 a14 a18 a94 a92 b38) ?_;rintro _ c61 ⟨b39,b98,b40,b41,b42,a95⟩;refine aa ?_;have b99:a94=true->ji p x a18=true->nB m F p x D a18:=λT A=>by subst T;exact⟨z,k,(Q z a9x).1,H,hm,A⟩
   split at a95
   .rename_i a19;rw[a4X]at a19;obtain⟨h,rfl,r⟩:=a95;refine⟨(e+1,[h],b39,b40),⟨a90,b41,b42,λc00 b=> ?_,a9x,λc00 b=> ?_,λb=>by cases b⟩,rfl,a9w⟩
    all_goals
     obtain rfl:=a5p.1 b;rcases r with rfl|r
    .exact b38
    .exact l8 _ r
    .exact b99 a19.1 a19.2
    .exact a15 _ r
   .rename_i a19;subst a95;refine⟨(e+1,b98,b39,b40),⟨a90,b41,b42,l8,a14,a15,λb=>⟨(a16 b).1,λh r=> ?_⟩⟩,rfl,a9w⟩;grind
  obtain rfl:e=k.rows.length:=a9w;rw[a5n]at a16;have c62:=U.af (l7.l.1 _ _ b88);have c01:=b34.len;rw[a74.len]at c01;refine aa ?_;refine ch [0,3,8,11,90,91] (λc:Nat×List R×R=> [(92,.v (.int .i64 (c.1)))]) (λc E=>c.1<=k.kids.length/\dF a l6 E d a11 a13 c.2.1 c.2.2/\aA r7 (O++(k.kids.take c.1).filter (ev p x)) c.2.1) (λc=>k.kids.length - c.1) (0,k2,C) ⟨⟨a5C _,l7,by simpa using b18⟩,aR⟩ ?_;rintro⟨s,a96,b43⟩ b44 ⟨c02,a27,l9⟩ c63
  dsimp only at c02 a27 l9
  refine aa ?_;refine aG (λaH=> ?_) λaH=> ?_
  .have b45:s<k.kids.length:=a9w;obtain⟨_,K,a97,c03,M,N,n0,rfl⟩:=a74.get (i:=s) (x:=k.kids.getD s az) (by simp_all);obtain⟨l5,b93,V⟩:=b34.get s _ K;have c04:=(aW (M:=M) (e6:=N) (h4:=n0) a97).all;have c64:dp true 37 b44 l5=some (.agg (ab (k.kids.getD s az) M N n0)):=by have:=V.ld b44 a27.l.1 true 37 a9w (by rw[hL];omega);rw[this,aX,if_pos rfl,hL,c04.2.1]
   have G:=eS (b:=az) b45;have b21:=lz (M:=M) (e6:=N) (h4:=n0) a97;generalize k.kids.getD s az=a98 at*;have c05:a96.length<=100000000:=by have T:=l9.len;rw[a4V]at T;have A:=zx (ks:=O) λB j=>(Q B (by simp[j])).2.2;grind
   clear V K;refine aa ?_;refine aN λc65 c06=> ?_;have c07:=a27.mono (U.ae (Y:= .cells (ab a98 M N n0)) U.a1 c06);refine aa ?_;refine ai (Fq a l6 _ d a11 a13 a96 b43 c07 a98 M N n0 a97 c03 (by show p.length<=8;omega) c05) ?_;rintro _ c66 ⟨c08,b46,k0,b47⟩;refine aa ?_;refine⟨(s+1,b46,c08),⟨b45,k0,?_⟩,rfl,a9w⟩;show aA r7 (O++(k.kids.take (s+1)).filter (ev p x)) b46;rw[G,a7X,<-a5h];split at b47
   .rename_i w;obtain⟨b61,a43,rfl⟩:=b47;have w:ev p x a98=true:=w;rw[a8P w];exact l9.snoc a43
   grind
  .obtain rfl:s=k.kids.length:=a9w;rw[a5n]at l9;obtain⟨c67,c68⟩:=Fu (q:=p) (b6:=x) H;have c09:=uY b35;refine⟨⟨b36,a11,a13,O++k.kids.filter (ev p x),a96,b43⟩,⟨a27.base b89,a89,l8,a14,l9,a15,λB j=> ?_,λT A h r=> ?_,?_⟩,?_⟩
   .rcases a5j.1 j with j|j
    .simp_all
    .obtain⟨a29,a99⟩:=a7T.1 j;obtain⟨_,a04,a57⟩:=nC (c09 B a29);have:=a04 (a57 (yT a99));exact⟨(Q z a9x).1.snoc H a29 a99,(Q z a9x).2.1,by unfold gB;omega⟩
   .obtain⟨a29,a99⟩:=a16 T;obtain⟨c69,b48,c21⟩:=o.co a29 A h r;rcases a5q.1 (k9.mem_iff.2 b48)with rfl|b48
    .obtain⟨c70,c71,c22,c23,c24,c25⟩:=c21;cases c22 with
     |refl=>simp_all
     |step b49 c26 c27 c28=>rw[H]at b49;obtain rfl:=a4S b49;exact⟨_,a7a _ (a7T.2 ⟨c26,c27⟩),_,_,c28,c23,c24,c25⟩
    grind
   grind;grind
def zy (d:ah) (h:List aL) (k:List UInt8) (id:Int) (b:R):Prop:=match h.find? (λa=>decide (a.name=k))with
 |none=>b= .aK [.J [] .nil,.v (.bool false),.v (.int .i64 3)]
 |some a=>
  (vn d (a.aD.length+1) (id::List.replicate a.aD.length iL) (id::List.replicate a.aD.length jj) a.bM/\b= .aK [.J [] .nil,.v (.bool false),.v (.int .i64 21)])\/
  ∃rows,vm d (a.aD.length+1) (id::List.replicate a.aD.length iL) (id::List.replicate a.aD.length jj) a.bM rows/\(∀c∈rows,c.length=a.aD.length+1)/\
   ((rows= []/\b= .aK [.J [] .nil,.v (.bool false),.v (.int .i64 0)])\/ ∃c o p,rows=c::o/\b= .aK [.J (ad c) p,.v (.bool true),.v (.int .i64 0)])
theorem a2x (a:cw e1=true) (b:e7∈e1):fA (e7.aD.length+1) e7.bM=true:=by simp only[cw,a4X,a5l,a6l,decide_eq_true_eq]at a;obtain⟨c,d,rfl⟩:=a5G b;simp_all [fS]
theorem G2 (id:Int) (a:e<=7):cO (id::List.replicate e iL) (id::List.replicate e jj) (e+1)=true:=by have hm:iL<=jj:=a9A;simp only[cO,a4Y,a6M,a4X,decide_eq_true_eq,a5l,a6l];grind
theorem a2y (x:U) (y n j9:Nat) (q:ah) (E:List aL) (s:cR x y n j9 q E) (k0:cw E=true) (W:List UInt8) (id:Int):
  AC Tryz.prog 12 [.ptr y 0,bb W,.v (.int .i64 id)] x λt a02=>x.sub a02/\zy q E W id t:=by
 obtain⟨a03,a86⟩:=kO k0;obtain⟨a04,a05,F,a06⟩:=s.x;have a88:=U.af F;have a89:=gd.all.1;have u: ∀a T,en a T->putAt eP 0 T=T:=λa T v=>(nG v).2.2.1;have a07:=u _ _ gd;have w:=jq;have k:=find_spec E a04 a05 W a06 a9w x;unfold Found at k;unfold zy;generalize eP=a90 at*;refine aM hm JU ?_;refine ai k ?_;clear k;rintro t k1 ⟨rfl,k⟩;cases A:E.find? (λa=>decide (a.name=W))with
 |none=>rw[A]at k;obtain rfl:=k;refine aa ?_;refine aN λa92 a94=> ?_;rw[w];exact aR
 |some a=>
  rw[A]at k;obtain⟨T,e,rfl⟩:=k;obtain⟨a95,a96,a97,a98,k2,k3,k4,k5,a08,a09,a99,b00,b01⟩:=e.all;have b02:=u _ _ e;have k6:=λx=>te a T e x;have hm:=vk A;have k7:=a03 a hm;have a10:=k7.c;have a11:=k7.k.size;obtain⟨a13,a14⟩:=e.k;clear u a07;refine aa ?_;refine aN λz B=> ?_;rw[w];clear w;have a15:y≠z:=by rintro rfl;rw[F]at B;cases B
  have b03:=a15.symm;have C:=U.ae (Y:= .cells T) (U.a1) B;have cU:=U.ag k1 z (.cells T);refine aa ?_;refine bc (k6 _) ?_;generalize k1.set z _=H at*;refine ai (a0Q (a.aD.length+1) a9w a9w H) ?_;rintro _ k8 ⟨b04,b05,rfl,b06,f,g⟩;have k9:(ad (List.replicate (a.aD.length+1) iL)).length=a.aD.length+1:=by rw[bG,a6M]
  have l0:(ad (List.replicate (a.aD.length+1) jj)).length=a.aD.length+1:=by rw[bG,a6M]
  obtain⟨aO,d,G,o,rfl,L,l1,a16,I,l2,b07,_⟩:=f.an (λK=>by rw[K]at k9;simp at k9);obtain⟨b,c,D,p,rfl,M,l3,a18,N,l4,b08,_⟩:=g.an (λK=>by rw[K]at l0;simp at l0);rw[a5K]at a16 I l2 a18 N l4;have l5:=g.1 _ _ l1;have l6:aO≠b:=by rintro rfl;rw[l1]at M;cases M
  have a19:=l6.symm;have i:=U.ar f.1 g.1;have l7:=i _ _ cU;have ek:=i _ _ (C _ _ F);have b09:=(s.sub C).sub i;have P:=U.bI f.1 M;have b10:z≠aO:=by rintro rfl;rw[cU]at L;cases L
  have b11:z≠b:=by rintro rfl;rw[cU]at P;cases P
  have b12:y≠aO:=by rintro rfl;rw[C _ _ F]at L;cases L
  have b13:y≠b:=by rintro rfl;rw[C _ _ F]at P;cases P
  refine aa ?_;refine aN λr h=> ?_;have a27:aO≠r:=by rintro rfl;rw[l5]at h;cases h
  have a29:b≠r:=by rintro rfl;rw[l3]at h;cases h
  have a30:z≠r:=by rintro rfl;rw[l7]at h;cases h
  have a34:y≠r:=by rintro rfl;rw[ek]at h;cases h
  have b14:=a27.symm;have b15:=a29.symm;have b16:=a30.symm;have b17:=a34.symm;have b18:cL 1 (.an aO d G 1) (.v (.int .i64 0))=some (.ptr aO 0):=by grind[jG]
  have b19:cL 1 (.an b c D 1) (.v (.int .i64 0))=some (.ptr b 0):=by grind[jG]
  have b20:=U.aI l5;have b21:=U.aI l3;have b22:=U.af l7;have fY:=U.af ek;have b23:1<=o.length:=a9w;have b24:1<=p.length:=a9w;have a36:(putAt o 0 [R.v (.int .i64 id)]).take d=ad (id::List.replicate a.aD.length iL):=by
   have O:d=a.aD.length+1:=a9w;have S:(o.drop 1).take (d - 1)=ad (List.replicate a.aD.length iL):=by rw[<-a6m,I];rfl
   have Q:d - 1=a.aD.length:=a9w;rw[Q]at S;show([]++ [R.v (.int .i64 id)]++o.drop 1).take d= _;rw[a5m,O,a9d,a7O,S];rfl
  have a38:(putAt p 0 [R.v (.int .i64 id)]).take c=ad (id::List.replicate a.aD.length jj):=by
   have O:c=a.aD.length+1:=a9w;have S:(p.drop 1).take (c - 1)=ad (List.replicate a.aD.length jj):=by rw[<-a6m,N];rfl
   have Q:c - 1=a.aD.length:=a9w;rw[Q]at S;show([]++ [R.v (.int .i64 id)]++p.drop 1).take c= _;rw[a5m,O,a9d,a7O,S];rfl
  have b25:(putAt o 0 [R.v (.int .i64 id)]).length=o.length:=eJ _ _ _ a9y;have b26:(putAt p 0 [R.v (.int .i64 id)]).length=p.length:=eJ _ _ _ a9y;have b27:(k8.set r (.cells [.an aO d G 1,.an b c D 1])) r=some (.cells [.an aO d G 1,.an b c D 1]):=U.ag _ _ _;clear f g I N l2 l4;refine aa ?_;generalize putAt o 0 [R.v (.int .i64 id)]=j at*;generalize putAt p 0 [R.v (.int .i64 id)]=l at*;refine bc (k6 _) ?_;generalize X:((k8.set r (.cells [.an aO d G 1,.an b c D 1])).set aO (.cells j)).set b (.cells l)=V;have a42:V aO=some (.cells j):=by subst X;rw[U.ao _ _ l6,U.ag]
  have a43:V b=some (.cells l):=by subst X;rw[U.ag]
  have b28:=U.bI i h;have a47:H.sub V:=by grind[U.ae]
  clear X;have l8:=View.an (n:=d) (cap:=G) (k:=1) a42 a9w;rw[jK,a36]at l8;have a48:(V.set aO (.ro j)) b=some (.cells l):=by rw[U.ao _ _ a19];exact a43
  have l9:=View.an (n:=c) (cap:=D) (k:=1) a48 a9w;rw[jK,a38]at l9;have n0:H.sub ((V.set aO (.ro j)).set b (.ro l)):=U.ae (U.ae a47 L) P;have a52:=View.agg (a:= []) (k:= [.an b c D 1,.v (.int .u8 0),.v (.int .i64 0),.J [] .nil,.v (.int .i64 1),.v (.bool false)]) rfl l8;have a56:=View.agg (a:= [.J (ad (id::List.replicate a.aD.length iL)) .any]) (k:= [.v (.int .u8 0),.v (.int .i64 0),.J [] .nil,.v (.int .i64 1),.v (.bool false)]) rfl l9;have a57:=a52.trans a56;have a61:=G2 id a10;have a62:ev (id::List.replicate a.aD.length iL) (id::List.replicate a.aD.length jj) a.bM=true->1<=a.bM.size:=λv=>by
   simp only[ev,a4X,decide_eq_true_eq]at v;have b29:=nC (a2x k0 hm);simp_all
  have a63:=AC.np (m:=Tryz.prog) (g:= [.ptr n 0,.agg (ab a.bM k2 k3 k4)]) a57 (a2w _ n j9 q (s.hb.mono (U.ar C n0)) a.bM k2 k3 k4 a13 a14 _ _ .any .any .nil (a.aD.length+1) a61 a11 a62);refine ai a63 ?_;rintro t a65 ⟨a68,a69⟩;have b30:=U.ar C (U.ar n0 a68);rcases a69 with ⟨b31,b32,b33,rfl⟩|⟨rows,b34,Y,n1,b35,b36,Z,m,b37,rfl⟩
  .refine aa ?_;refine aN λn2 n3=> ?_;refine aa ?_;simp
  .have b38:=fJ Z;refine aa ?_;refine aN λn2 n3=> ?_;have a71:=Z.src;obtain⟨n4,k5,a08,a09⟩:=a71;rw[a5K]at k5;have n5:=m.len;refine aa ?_;cases rows with
   |nil=>
    have n9:n4=0:=by rw[a5d]at n5;omega
    subst n9;refine aa ?_;grind
   |cons a73 rest=>
    have n9: ¬(n4:Int)=0:=by rw[a4Y]at n5;omega
    obtain⟨_,a74,a81,rfl⟩:=m.get (i:=0) rfl;have a83:=bR.dJ (Z.mono (U.ae (Y:= .cells [Y,.v (.int .i64 n1)]) (U.a1) n3)) a9w m.flat.symm (m.cells λ_ _=>isRow.cells);obtain⟨a00,a01,a84⟩:=a83.get 0 _ a74;have a01:cL 1 Y (.v (.int .i64 0))=some a00:=a01;have b39:dp false 1 (a65.set n2 (.cells [Y,.v (.int .i64 n1)])) a00=some (.J (ad a73) a81):=a84.ld _ U.a1 false 1 a9w (by simp[R.cells]);refine aa ?_;grind
def jt (d:Nat) (b:List Int×List Int) (c:List Int):Prop:= ∀a,a<d->b.1.getD a 0<=c.getD a 0/\c.getD a 0<=b.2.getD a 0
def G3 {a b:List Int×List Int} (h:hh e a) (k:hh e b) (c:jt e a q\/jt e b q):jt e (cP a b) q:=by
 have o:=lp.1 h.ok;have p:=lp.1 k.ok;unfold cP;rw[o.2.2.1,p.2.2.1,if_pos h.ok,if_pos k.ok,if_pos rfl];intro d r;have x:=Er (a:=min) (q:=a.1) (b6:=b.1) (e:=d) a9w a9w;have y:=Er (a:=max) (q:=a.2) (b6:=b.2) (e:=d) a9w a9w
 dsimp only
 rw[x,y];rcases c with c|c<;>have:=c d r<;>omega
theorem G4 {a:gM} (k:mj e i a) (r:0<i) (o:jo e a8 A) (d:jt e a.aO q):jt e (ep a A).aO q:=by
 have h:hh e a.aO:=by
  rcases k.aO with ⟨b,_⟩|⟨_,b⟩
  .omega
  .exact b
 show jt e (cP a.aO (A.aU,A.aV)) q;rcases o.aO with ⟨b,c,p⟩|⟨b,c⟩
 .rw[c,p,FF h];exact d
 .exact G3 h c (.inl d)
def G5 {a:gM} (h:mj e i a) (k:jo e a8 A) (o:q∈a8.all) (d:jt e (A.aU,A.aV) q):jt e (ep a A).aO q:=by
 have x:=a8a o;show jt e (cP a.aO (A.aU,A.aV)) q;rcases k.aO with ⟨p,b,y⟩|⟨p,b⟩
 .omega
 rcases h.aO with ⟨r,c⟩|⟨r,c⟩
 .rw[c,pB b];exact d
 .exact G3 c b (.inr d)
theorem zz {b:Nat} (h:1<=b) (k:b<=8) {c:List Int}: ∀ {o:aC},o.c9 b->o.size<=1048576->c∈o.all->jt b ((bp o).aU,(bp o).aV) c
 | .nil,_,_,d=>by cases d
 | .node p live D E,d,F,a=>by
  simp only[aC.size]at F;have x:=fg h k d.a a9w;have y:=fg h k d.b a9w;have r:=y2 h k d.r;have z:mj b (if live=true then 1 else 0) (dM ⟨0,1,([],[])⟩ (p,live)):=by
   cases live with
   |false=>exact⟨rfl,.inl ⟨rfl,rfl⟩⟩
   |true=>refine⟨rfl,.inr ⟨a9A,?_⟩⟩;show hh b (cP ([],[]) (gn p));rw[pB r];exact r
  have C:=yY z x;show jt b (ep (ep (dM ⟨0,1,([],[])⟩ (p,live)) (bp D)) (bp E)).aO c;simp only[aC.all,a5j]at a;rcases a with (a|a)|a
  .have:=a8a a;exact G4 C a9w y (G5 z x a (zz h k d.a a9w a))
  .exact G5 C y a (zz h k d.b a9w a)
  .have G:live=true/\c=p:=by simp_all
   obtain⟨rfl,rfl⟩:=G;have L:jt b (dM ⟨0,1,([],[])⟩ (c,true)).aO c:=by show jt b (cP ([],[]) (gn c)) c;rw[pB r];unfold gn;rw[if_pos (by have:=d.r.len;omega)];exact λP _=>⟨a8T _,a8T _⟩
   grind[G4]
def G6 {a:List Int} (b:a.length=e):ji q b6 a=true↔cO q b6 e=true/\jt e (q,b6) a:=by unfold ji;simp only[b,a4X,a5l,a6l,decide_eq_true_eq];rfl
def zA (c:1<=e) (d:e<=8) {h:List Int} (a:a8.c9 e) (k:a8.size<=1048576) (b:b6∈a8.all) (y:ji h q b6=true):ev h q (bp a8)=true:=by
 have o:=fg c d a k;have G:=a8a b;have z:=(a b6 (aC.gE b)).len;obtain⟨p,C⟩:=(G6 z).1 y;have D:=zz c d a k b;have E:=lp.1 p;have F:cO (bp a8).aU (bp a8).aV e=true:=by
  rcases o.aO with ⟨r,_⟩|⟨_,r⟩
  .omega
  .exact r.ok
 have L:=o.live;unfold ev jZ oC;simp only[E.2.2.1,a4X,a5l,a6l,decide_eq_true_eq];refine⟨a9w,⟨p,F⟩,λx q=> ?_⟩;have:=C x q;have:=D x q
 dsimp only at*
 unfold hC;omega
def G7:fm H e az=none:=by
 cases a:fm H e az with
 |none=>rfl
 |some b=>have:=(Fu (q:= []) (b6:= []) a).2;have c:(az).size=0:=rfl;omega
theorem G8 (r:1<=e) (x:e<=8) (y:mq H e q b6 A j2): ∀ {a:aC},A=bp a->a.c9 e->a.size<=1048576->dY H a-> ∃b,j2=bp b/\b.c9 e/\b.size<=1048576/\dY H b/\(∀z∈b.all,z∈a.all)/\(ev q b6 A=true->ev q b6 j2=true):=by
 induction y with
 |refl C=>grind
 | @step C k W f c hk g i ih=>
  intro a o d p h;cases a with
  |nil=>rw[o,show bp .nil=az from rfl,G7]at c;cases c
  |node j live D E=>
   rw[o,sY r x d p h]at c;obtain rfl:=a4S c;simp only[aC.size]at p;have F:k=bp D\/k=bp E:=by simpa[cp] using hk
   rcases F with rfl|rfl
   .obtain⟨b,G,L,P,S,T,V⟩:=ih rfl d.a a9w h.2.1;grind[aC.all]
   .obtain⟨b,G,L,P,S,T,V⟩:=ih rfl d.b a9w h.2.2;grind[aC.all]
def zB (a:1<=e) (b:e<=8) (d:a8.c9 e) (h:a8.size<=1048576) (k:dY H a8): ¬vn H e q b6 (bp a8):=by
 rintro⟨D,o,p,c⟩;obtain⟨r,rfl,x,y,z,_,C⟩:=G8 a b o rfl d h k;cases r with
 |nil=>exact yT (C p) rfl
 |node E live F G=>rw[sY a b x y z]at c;cases c
def a2z (b:1<=e) (c:e<=8) {d:List Int} (h:a8.c9 e) (k:a8.size<=1048576) (o:dY H a8) (p:nB H e b6 d (bp a8) q):q∈a8.all/\ji b6 d q=true:=by
 obtain⟨G,L,r,a,hm,x⟩:=p;obtain⟨y,rfl,z,C,D,E,_⟩:=G8 b c r rfl h k o;refine⟨E q ?_,x⟩;cases y with
 |nil=>rw[show bp .nil=az from rfl,G7]at a;cases a
 |node F live P S=>
  rw[sY b c z C D]at a;obtain rfl:=a4S a;have:q=F/\live=true:=by simpa[cp] using hm
  obtain⟨rfl,rfl⟩:=this;simp[aC.all]
theorem zC {E:ah}{o:Nat} (c:1<=o) (d:o<=8) {F G p:List Int}: ∀ {h:aC},h.c9 o->h.size<=1048576->dY E h->p∈h.all->ji F G p=true->nB E o F G (bp h) p
 | .nil,_,_,_,b,_=>by cases b
 | .node P live T V,b,L,r,a,k=>by
  have x:=sY c d b L r;simp only[aC.size]at L;simp only[aC.all,a5j]at a;rcases a with (a|a)|a
  .obtain⟨y,z,C,D⟩:=zC c d b.a a9w r.2.1 a k;exact⟨y,z,.step x (by simp[cp]) (zA c d b.a a9w a k) C,D⟩
  .obtain⟨y,z,C,D⟩:=zC c d b.b a9w r.2.2 a k;exact⟨y,z,.step x (by simp[cp]) (zA c d b.b a9w a k) C,D⟩
  .have S:live=true/\p=P:=by simp_all
   obtain⟨rfl,rfl⟩:=S;exact⟨_,_,.refl _,x,by simp[cp],k⟩
theorem zD (b:1<=e) (c:e<=8) (d:a8.c9 e) (h:a8.size<=1048576) (k:dY H a8) (o:vm H e q b6 (bp a8) Q):(Q= []↔ ∀a∈a8.all,¬ji q b6 a=true):=by
 constructor
 .intro x a p r;exact o.full x (zA b c d h p r) a (zC b c d h k p r)
 .intro y;cases Q with
  |nil=>rfl
  |cons a rest=>obtain⟨z,C⟩:=a2z b c d h k (o.sound a a9x);simp_all
theorem zE {id:Int} (d:e<=7) (b:bL (e+1) q):ji (id::List.replicate e iL) (id::List.replicate e jj) q=true↔q.getD 0 0=id:=by
 rw[G6 b.len];constructor
 .rintro⟨_,c⟩;have:=c 0 a9w;grind
 .intro h;refine⟨G2 id d,λa k=> ?_⟩;cases a with
  |zero=>simp only[a5B];omega
  |succ a=>have c:a<e:=a9w;have o:=b.len;have hm:=b.jU (q.getD (a+1) 0) (by simp_all);simp only[a5F];simp only[a5M,List.getElem?_replicate,if_pos c,a6P];simp only[a5M]at hm;unfold iL jj;omega
def lB (b:ah) (d:List aL) (c:cB) (h:Int×List aL×ah):Prop:=match d.find? (λa=>decide (a.name=c.table))with
 |none=>h=(3,d,b)
 |some a=>if c.row.length=a.aD.length+1 then
   (vn b (a.aD.length+1) (c.row.getD 0 0::List.replicate a.aD.length iL) (c.row.getD 0 0::List.replicate a.aD.length jj) a.bM/\h=(21,d,b))\/
   ∃rows,vm b (a.aD.length+1) (c.row.getD 0 0::List.replicate a.aD.length iL) (c.row.getD 0 0::List.replicate a.aD.length jj) a.bM rows/\(∀k∈rows,k.length=a.aD.length+1)/\
    ((rows= []/\h=fD (λb=>nD (a.aD.length+1) c.row b a.bM) (λb=>jg (a.aD.length+1) c.row b a.cq) b d a)\/(rows≠ []/\h=(8,d,b)))
  else h=(6,d,b)
def a2A (z:U) (p r x:Nat) (k:ah) (c:List aL) (l:cR z p r x k c) (m: ∀d∈c,d.Fit) (n:cw c=true) (a:cN) (H:a.d.Fit):
  AC Tryz.prog 49 [.ptr p 0,a.V] z λD E=> ∃res,lB k c a.d res/\D= .v (.int .i64 res.1)/\cR E p r x res.2.2 res.2.1/\cD p r x z E:=by
 obtain⟨I,l5⟩:=kO n;have q:=λE C=>FX E p r x k c C a9w a H;have s:a.V= .agg [ak a.d.kind,bb a.d.table,.J (bE a.d.aD) a.gv,.J (ad a.d.row) a.dn]:=rfl;obtain⟨l6,l7,K,l8⟩:=l.x;rw[s]at q|-;clear s;have l9:=U.af K;have n0:=gd.all.1;refine aM hm KO ?_;refine bo λP M=> ?_;have t:=U.ae (Y:= .cells [ak a.d.kind,bb a.d.table,.J (bE a.d.aD) a.gv,.J (ad a.d.row) a.dn]) (U.a1) M;have aH:=U.ag z P (.cells [ak a.d.kind,bb a.d.table,.J (bE a.d.aD) a.gv,.J (ad a.d.row) a.dn]);generalize z.set P _=N at*;have u:=l.sub t;refine ai (q N u) ?_;rintro D O ⟨S,b⟩;have V:=S _ _ aH;have n1:=U.af V;have W:=u.sub S;have e:=U.ar t S;have f: ∀d T,en d T->putAt eP 0 T=T:=λd T C=>(nG C).2.2.1;have n2:=gd.all.2.1;have n3:=f _ _ gd;have g:=jq;generalize eP=n4 at*;unfold mv at b;unfold lB;cases F:c.find? (λd=>decide (d.name=a.d.table))with
 |none=>
  rw[F]at b
  dsimp only at b
  obtain rfl:=b;refine aa ?_;refine aN λG h=> ?_;rw[g];refine aa ?_;refine⟨_,U.a1,(3,c,k),rfl,rfl,W.sub (U.ae U.a1 h),cD.of (U.ar e (U.ae U.a1 h))⟩
 |some d=>
  rw[F]at b;have hm:=vk F
  dsimp only at b
  by_cases y:a.d.row.length=d.aD.length+1
  .rw[if_pos y]at b;obtain⟨T,o,rfl⟩:=b;obtain⟨Q,X,Y,_⟩:=o.all;have Z:=f _ _ o;have j9:= @dK a.d.row;have n5:=bG (q:=a.d.row);refine aa ?_;refine aN λG h=> ?_;rw[g];have k0:P≠G:=by rintro rfl;rw[V]at h;cases h
   have n9:=k0.symm;obtain⟨k1,k2⟩:=o.k;obtain⟨k3,k4⟩:=o.z;have v:=I d hm;have a00:=v.c;have a01:=v.k.size;have w:=W.sub (U.ae (Y:= .cells T) U.a1 h);have k5:=U.ae (Y:= .cells T) (U.a1) h _ _ V;have k6:=U.ag O G (.cells T);have k7:=U.ar e (U.ae (Y:= .cells T) (U.a1) h);have a02:cL 1 (.J (ad a.d.row) a.dn) (.v (.int .i64 0))=some (.bV [.v (.int .i64 (a.d.row.getD 0 0))]):=by have C:=j9 (b:=0) a9w;have k8:(0:Int)<=0:=a9w;rw[hJ k8];show ey 1 (ad a.d.row)[0]? = _;rw[C];rfl
   dsimp only
   simp only[if_pos y];refine aa ?_;refine ai (a2y _ p r x k c w n a.d.table (a.d.row.getD 0 0)) ?_;rintro D k9 ⟨L,b⟩;unfold zy at b;rw[F]at b
   dsimp only at b
   have i:=w.sub L;have j:=U.ar k7 L;have a03:=U.af (L _ _ k5);have a04:=U.af (L _ _ k6);rcases b with ⟨a05,rfl⟩|⟨rows,A,B,⟨rfl,rfl⟩|⟨l0,l1,a06,rfl,rfl⟩⟩
   .refine aa ?_;exact⟨_,U.a1,(21,c,k),.inl rfl,rfl,i,cD.of j⟩
   .have l2:=G1 k9 p r x k c i m a9w d T o (m d hm) a.d.row a.dn 84 85 _ _ a9B a9B (jr.a2q k1 k2 a9w a9w a9w y) (jr.a2s k3 k4 a9w a9w y);refine aa ?_;refine ai l2 ?_;rintro D a07 ⟨rfl,l3,l4⟩;refine aa ?_;exact⟨_,U.a1,_,.inr ⟨[],A,B,.inl ⟨rfl,rfl⟩⟩,rfl,l3,(cD.of j).trans l4⟩
   .refine aa ?_;exact⟨_,U.a1,(8,c,k),.inr ⟨l0::l1,A,B,.inr ⟨a9x,rfl⟩⟩,rfl,i,cD.of j⟩
  .rw[if_neg y]at b;obtain⟨T,o,rfl⟩:=b;obtain⟨Q,X,Y,_⟩:=o.all;have Z:=f _ _ o;refine aa ?_;refine aN λG h=> ?_;rw[g]
   dsimp only
   simp only[if_neg y];refine aa ?_;refine⟨_,U.a1,(6,c,k),rfl,rfl,W.sub (U.ae U.a1 h),cD.of (U.ar e (U.ae U.a1 h))⟩
def eG (c:ah) (b:List aL) (a:cB) (d:Int×List aL×ah):Prop:=
 if eu a=false then d=(1,b,c)
 else if a.kind=1 then d=((iO (ke b ⟨a.table,a.aD,az,az⟩) b).1,(iO (ke b ⟨a.table,a.aD,az,az⟩) b).2,c)
 else if a.kind=2 then d=((iO (cI b a.table) b).1,(iO (cI b a.table) b).2,c)
 else if a.kind=3 then lB c b a d
 else d=js c b a
theorem G9 (b:U) (d h k:Nat) (r:ah) (x:List aL) (Z:cR b d h k r x) (j: ∀j9∈x,j9.Fit) (m:cw x=true) (a:cN) (l:a.d.Fit):
  AC Tryz.prog 20 [.ptr d 0,a.V] b λg w=> ∃res,eG r x a.d res/\g= .v (.int .i64 res.1)/\cR w d h k res.2.2 res.2.1/\cD d h k b w:=by
 have k2:=(kO m).2;have n:=λb=>EP a l b;have A:=λb L=>a2m b d h k r x L j a9w a l;have B:=λb L=>a2l b d h k r x L j a9w a;have H:=λb L=>a2A b d h k r x L j m a l;have I:=λb L=>a2u b d h k r x L j m a l;have K:a.V= .agg [ak a.d.kind,bb a.d.table,.J (bE a.d.aD) a.gv,.J (ad a.d.row) a.dn]:=rfl;rw[K]at n A B H I|-;clear K;refine aM hm K0 ?_;refine bo λq k0=> ?_;have e:=U.ae (Y:= .cells [ak a.d.kind,bb a.d.table,.J (bE a.d.aD) a.gv,.J (ad a.d.row) a.dn]) (U.a1) k0;have aH:=U.ag b q (.cells [ak a.d.kind,bb a.d.table,.J (bE a.d.aD) a.gv,.J (ad a.d.row) a.dn]);generalize b.set q _=f at*;have i:=Z.sub e;have k3:=U.af aH;cases ct:eu a.d with
 |false=>refine bc (n f) ?_;exact⟨_,U.a1,(1,x,r),by unfold eG;rw[if_pos ct],rfl,i,cD.of e⟩
 |true=>
  refine bc (n f) ?_;rw[show List.replicate 5 (R.v .nilFunc)= [.v .nilFunc,.v .nilFunc,.v .nilFunc,.v .nilFunc,.v .nilFunc]from rfl];have k4: ∀z C D E F y:R,putAt [z,C,D,E,F] 1 [y]= [z,y,D,E,F]:=λ_ _ _ _ _ _=>rfl;have k5: ∀z C D E F y:R,putAt [z,C,D,E,F] 2 [y]= [z,C,y,E,F]:=λ_ _ _ _ _ _=>rfl;have k6: ∀z C D E F y:R,putAt [z,C,D,E,F] 3 [y]= [z,C,D,y,F]:=λ_ _ _ _ _ _=>rfl;have k7: ∀z C D E F y:R,putAt [z,C,D,E,F] 4 [y]= [z,C,D,E,y]:=λ_ _ _ _ _ _=>rfl;have k8: ∀z C D E F y M N O v:R,putAt [z,C,D,E,F] 0 [y,M,N,O,v]= [y,M,N,O,v]:=λ_ _ _ _ _ _ _ _ _ _=>rfl;have k9: ∀Q X Y,(R.bF Q X Y).cells= [.bF Q X Y]:=λ_ _ _=>rfl;have P:a.d.kind.toNat=1\/a.d.kind.toNat=2\/a.d.kind.toNat=3\/a.d.kind.toNat=4:=by have L:=ct;simp only[eu,a4X]at L;grind
  refine aa ?_;refine aN λc G=> ?_;have k1:q≠c:=by rintro rfl;rw[aH]at G;cases G
  have l0:=k1.symm;rcases P with P|P|P|P
  .have s:lU 1 5 (.ptr c 0) (ak a.d.kind)=some (.ptr c 1):=by have:=rV (e:=1) (i:=5) (v:=c) (O:=0) (e2:= .u8) (b1:=(a.d.kind.toNat)) a9w a9w;rw[a5x,show 0+a.d.kind.toNat*1=1 by omega]at this;exact this
   refine aa ?_;have t:a.d.kind=1:=a5P.1 P;generalize o:(f.set c _)=p;have S:cR p d h k r x:=by subst o;exact i.sub (U.ae U.a1 G)
   have T:cD d h k b p:=by subst o;exact cD.of (U.ar e (U.ae U.a1 G))
   clear o;refine fH a9C (A p S) ?_;rintro g u ⟨V,W,rfl⟩;refine aa ?_;refine⟨_,U.a1,(_,_,r),?_,rfl,V,T.trans W⟩;unfold eG;grind
  .have s:lU 1 5 (.ptr c 0) (ak a.d.kind)=some (.ptr c 2):=by have:=rV (e:=1) (i:=5) (v:=c) (O:=0) (e2:= .u8) (b1:=(a.d.kind.toNat)) a9w a9w;rw[a5x,show 0+a.d.kind.toNat*1=2 by omega]at this;exact this
   refine aa ?_;have t:a.d.kind=2:=a5P.1 P;generalize o:(f.set c _)=p;have S:cR p d h k r x:=by subst o;exact i.sub (U.ae U.a1 G)
   have T:cD d h k b p:=by subst o;exact cD.of (U.ar e (U.ae U.a1 G))
   clear o;refine fH a9C (B p S) ?_;rintro g u ⟨V,W,rfl⟩;refine aa ?_;refine⟨_,U.a1,(_,_,r),?_,rfl,V,T.trans W⟩;simp_all [eG]
  .have s:lU 1 5 (.ptr c 0) (ak a.d.kind)=some (.ptr c 3):=by have:=rV (e:=1) (i:=5) (v:=c) (O:=0) (e2:= .u8) (b1:=(a.d.kind.toNat)) a9w a9w;rw[a5x,show 0+a.d.kind.toNat*1=3 by omega]at this;exact this
   refine aa ?_;have t:a.d.kind=3:=a5P.1 P;generalize o:(f.set c _)=p;have S:cR p d h k r x:=by subst o;exact i.sub (U.ae U.a1 G)
   have T:cD d h k b p:=by subst o;exact cD.of (U.ar e (U.ae U.a1 G))
   clear o;refine fH a9C (H p S) ?_;rintro g u ⟨res,l1,rfl,V,W⟩;refine aa ?_;refine⟨_,U.a1,res,?_,rfl,V,T.trans W⟩;simp_all [eG]
  .have s:lU 1 5 (.ptr c 0) (ak a.d.kind)=some (.ptr c 4):=by have:=rV (e:=1) (i:=5) (v:=c) (O:=0) (e2:= .u8) (b1:=(a.d.kind.toNat)) a9w a9w;rw[a5x,show 0+a.d.kind.toNat*1=4 by omega]at this;exact this
   refine aa ?_;have t:a.d.kind=4:=a5P.1 P;generalize o:(f.set c _)=p;have S:cR p d h k r x:=by subst o;exact i.sub (U.ae U.a1 G)
   have T:cD d h k b p:=by subst o;exact cD.of (U.ar e (U.ae U.a1 G))
   clear o;refine fH a9C (I p S) ?_;rintro g u ⟨rfl,V,W⟩;refine aa ?_;refine⟨_,U.a1,js r x a.d,?_,rfl,V,T.trans W⟩;simp_all [eG]
theorem oL:cw e1=true↔(∀b∈e1,fS b=true)/\e1.Pairwise (λc d=>c5 c.name d.name=true)/\e1.length<=8:=by
 constructor
 .intro a;have o:=zp a;simp only[cw,a4X,a5l,a6l,decide_eq_true_eq]at a;refine⟨λb h=> ?_,?_,a.2⟩
  .obtain⟨p,r,rfl⟩:=a5G h;simp_all
  grind[List.pairwise_iff_getElem,List.getD]
 .rintro⟨x,k,y⟩;rw[a6v]at k;simp only[cw,a4X,a5l,a6l,decide_eq_true_eq,a6E];grind
theorem Ga {b:List aL} (c:cw e1=true) (a:cI e1 w= .ok b):cw b=true:=by
 unfold cI at a;rw[if_pos c]at a;split at a
 .obtain rfl:=Except.ok.inj a;obtain⟨d,h,k⟩:=oL.1 c;have o:(e1.take (cY e1 w)++e1.drop (cY e1 w+1)).Sublist e1:=by grind[cY,List.Sublist.append_left,List.drop_drop,List.drop_sublist,List.take_append_drop]
  grind[oL,Nat.le_trans]
 .cases a
theorem Gb {c:List aL} (a:kf e1 e7= .ok c):cw c=true:=by
 unfold kf at a;split at a
 .rename_i b;simp only[a4X]at b;obtain⟨b,p⟩:=b;split at a
  .rename_i d;obtain rfl:=Except.ok.inj a;simp only[gF,a4X,decide_eq_true_eq]at d;obtain⟨h,r⟩:=d;obtain⟨x,k,o⟩:=oL.1 b;have y:(e1[cY e1 e7.name]'h).name=e7.name:=by simp_all
   refine oL.2 ⟨λz C=> ?_,?_,by rw[a7S];exact o⟩;grind
   .rw[a6v]at k|-;grind
  .cases a
 .cases a
def Gc {c:aL->Bool}: ∀ {d:List aL},∀b∈d.takeWhile c,c b=true
 | [],b,a=>by cases a
 |h::d,b,a=>by
  rw[a6n]at a;split at a
  .rcases a5q.1 a with rfl|a
   .assumption
   .exact Gc b a
  .cases a
theorem Gd {c:aL->Bool}: ∀ {d:List aL}{b:aL}{h:List aL},d.dropWhile c=b::h->c b=false
 | [],_,_,a=>by cases a
 |k::d,b,h,a=>by
  rw[a7u]at a;split at a
  .exact Gd a
  simp_all
theorem Ge {o:List aL} (b:ke e1 e7= .ok o):cw o=true:=by
 unfold ke at b;split at b
 .rename_i d;simp only[a4X]at d;obtain⟨d,E⟩:=d;split at b
  .cases b
  rename_i F;split at b
  .cases b
  rename_i G;obtain rfl:=Except.ok.inj b;obtain⟨L,p,P⟩:=oL.1 d;have r:e1.take (cY e1 e7.name)=e1.takeWhile λa=>c5 a.name e7.name:=by grind[List.takeWhile_append_dropWhile,c5,cY,List.take_left]
  have x:e1.drop (cY e1 e7.name)=e1.dropWhile λa=>c5 a.name e7.name:=by grind[List.takeWhile_append_dropWhile,c5,cY,List.drop_left]
  have el:=a5L (p:=λa:aL=>c5 a.name e7.name) (l:=e1);have S: ∀a∈e1.takeWhile (λa=>c5 a.name e7.name),c5 a.name e7.name=true:=λa c=>Gc a c;have y: ∀a∈e1.dropWhile (λa=>c5 a.name e7.name),c5 e7.name a.name=true:=by
   intro a c;cases h:e1.dropWhile (λa=>c5 a.name e7.name)with
   |nil=>rw[h]at c;cases c
   |cons k T=>
    have V:=Gd h;have W:cY e1 e7.name<e1.length:=by grind
    have e:e1.getD (cY e1 e7.name) default=k:=by grind
    have f:k.name≠e7.name:=λg=>by
     simp_all [gF]
    have z:c5 e7.name k.name=true:=by grind[c5,absurd,FM]
    rw[h]at c;rcases a5q.1 c with rfl|c
    .exact z
    grind[vh,List.pairwise_cons]
  rw[r,x];refine oL.2 ⟨λa c=> ?_,?_,?_⟩;grind
  .rw[<-el]at p;obtain⟨C,D,i⟩:=a5W.1 p;refine a5W.2 ⟨C,a5D.2 ⟨y,D⟩,λj l m n=> ?_⟩;grind
  grind
 .cases b
end Go.Proofs.YtlgnfcaolejgeaaGreat
namespace Go.bz
open Go
variable{n b3:R}{f t e4:U}{g B e0:List R}{e i v O b8 j0:Nat}
theorem View.obj (p:f e=some (.cells (B++ .an i O b8 1::e0))) (z:f i=some (.cells g)) (C:O*1<=g.length) (D:e≠i):
  View f n ((f.set i (.ro g)).set e (.cells (B++ .J (dS 1 O g) .any::e0))) n:=λt u v E F=>by
 obtain⟨G,a⟩:=Step.freeze E z;have L:(f.set i (.ro g)) e=some (.cells (B++ .an i O b8 1::e0)):=by rw[U.ao _ _ D];exact p
 obtain⟨w,P,T,S,h,V⟩:=a.holds.dQ e _ L;refine⟨G,⟨⟨a.holds.ro,λr W b=> ?_⟩,a.le,a.os,a.tape,a.output,a.size,λ_ _ _=>rfl,λk A=> ?_,a.my,λk j l o=> ?_⟩,F.mono a.le⟩
 .by_cases c:r=e
  .subst c;rw[U.ag]at b;obtain rfl:=a4S b;refine⟨λH d=> ?_,P,T,S,⟨by have:=h.1;simp_all,λx y m=> ?_⟩,V⟩
   .simp only[a5j,a5q]at d;rcases d with d|rfl|d
    .simp_all
    .rfl
    .simp_all
   .by_cases q:x=B.length
    .subst q;have s:y= .J (dS 1 O g) .any:=by simpa using m.symm
     subst s;exact aY.frozen a.holds (U.ag _ _ _) C (h.2 B.length (.an i O b8 1) a9x)
    .refine h.2 x y ?_;grind
  .rw[U.ao _ _ c]at b;exact a.holds.dQ r W b
 grind[U.ao]
 .have c:k≠e:=by rintro rfl;rw[p]at o;cases o
  rw[U.ao _ _ c];exact a.jw k j l o
def zF (k o:U):Prop:= ∀a b c d h,k a=some (.cells [.J b c,.J d h])->o a=some (.cells [.J b c,.J d h])
end Go.bz
namespace Go.Proofs.YtlgnfcaolejgeaaGreat
open Go Go.bz
def bw.vq {r x:U} (d:zF r x): ∀ {a:Nat}{b:a6.T a}{c:R},bw r a b c->bw x a b c
 |0,b,c,⟨h,y,k,eV,h1,o,p⟩=>⟨h,y,k,eV,h1,d _ _ _ _ _ o,p⟩
 |a+1,b,c,⟨h,z,k,eV,h1,o,p,C⟩=>⟨h,z,k,eV,h1,d _ _ _ _ _ o,p.mono λ_ _=>bw.vq d,C⟩
variable{e i v O b8 j0:Nat}
theorem a2B (r:List Int) (S:Own) (C:a6.T 0) (T:R) (o:U) (q:bw o 0 C T) (V:GT e 0 C) (Y:e<=8):
  AC Tryz.prog 95 [T,.J (ad r) S] o λy c=>o.sub c/\bw c 0 (a6.cI bC r 0 C) y:=by
 obtain⟨Z,j9,s,k0,rfl,W,G⟩:=q;obtain⟨d,rfl⟩:=a6.hV C;rw[a6.qN]at G;have f:=V.ok;have t:=V.dB;rw[a6.kA]at f t;have k1:=G.len;show AC _ _ _ _ λy c=>o.sub c/\bw c 0 (a6.leaf (d.filter λa=>decide (a≠r))) y;refine AC.view (s:=λy c=> ∃a h k,y= .ptr a 0/\o a=none/\av (o.set a (.cells [h,.J [] .nil])) c 1 k h/\aA isRow (d.filter λa=>decide (a≠r)) k) ?_ ?_
 .have u:=U.af W;refine aM hm Bl ?_;refine bo λa z=> ?_;refine ch [0,1,5] (λb:Nat=> [(6,.v (.int .i64 (b)))]) (λb c=>b<=d.length/\ ∃h k,av (o.set a (.cells [h,.J [] .nil])) c 1 k h/\aA isRow ((d.take b).filter λa=>decide (a≠r)) k) (λb=>d.length - b) 0 ⟨⟨a9w,_,[],av.nil U.a1,trivial⟩,aR⟩ ?_;rintro b v ⟨k2,h,k,p,x⟩ k3;have k4:=x.len;have w:=p.1 _ _ (U.ag _ _ _);have u:=rd (U.ar (U.ae U.a1 z) p.1) W;have L:=U.af w;refine aa ?_;refine aG (λA=> ?_) λA=> ?_
  .obtain⟨_,k5,g,rfl⟩:=G.at [] (e:=b) a9w;have B:=eS (a:=d) (b:= []) (e:=b) a9w;have k6:=(f (d.getD b []) (by grind)).len;generalize d.getD b []=D at*;refine lX (nq D r g S v a9w) ?_;refine aG (λc2=> ?_) λc2=> ?_
   .have H:=a8j (λa=>decide (a≠r)) (d.take b);rw[a4W]at H;refine Xo p (λ_ i k7 P=> ?_);have k8:=U.aI (P.1 _ _ (U.ag _ _ _));have k9:=fJ P;have j:=jO (Y:= .cells [i,.J [] .nil]) P (U.ag o a (.cells [h,.J [] .nil]));rw[U.set_set]at j;refine aa ?_;exact⟨b+1,⟨a9w,i,_,j,by rw[B,a7X,a8P (by simpa using c2),a8S];exact x.snoc ⟨g,rfl⟩⟩,rfl,a9w⟩
   grind
  .rw[a4U a9w]at x;exact⟨_,U.a1,a,h,k,rfl,z,p,x⟩
 .rintro y c ⟨a,h,k,rfl,z,p,x⟩;have L:=p.1 _ _ (U.ag _ _ _);have l:=U.ar (U.ae U.a1 z) p.1;rcases p.2 with ⟨rfl,I⟩|⟨m,K,l0,M,rfl,E,N,O,l1,l2,l3,l4⟩
  .refine⟨_,c,View.refl,l,?_⟩;rcases I with rfl|rfl<;>exact⟨a,[],_,.nil,rfl,L,x⟩
  .have Q:a≠m:=by rintro rfl;rw[U.ag]at E;cases E
   refine⟨_,_,View.obj (B:= []) L N (by rw[O];omega) Q,?_,a,_,.any,.nil,rfl,U.ag _ _ _,?_⟩
   .intro D s F;have n:D≠a:=by rintro rfl;rw[z]at F;cases F
    have X:D≠m:=by rintro rfl;rw[U.ao _ _ n,F]at E;cases E
    rw[U.ao _ _ n,U.ao _ _ X];exact l _ _ F
   .rw[jK,show M.take K=k by simp_all];exact x
def pQ {d:U}{b:Nat}: ∀ {h:List (a6.T b)}{a:List R},aA (bw d b) h a->flat a=a
 | [],[],_=>rfl
 | _:: _,k::a,c=>by
  obtain⟨o,p,r,rfl,_⟩:=bw.ptr c.1;have:=pQ c.2;simp only[flat,a5v]at this|-;rw[this];rfl
variable{n b3:R}{f t e4:U}
def bw.shape {p:a6.T e} (r:bw f e p n): ∃a k b d c,n= .ptr a 0/\f a=some (.cells [.J k b,.J d c])/\k.length+d.length=a6.len p/\(e=0->d= [])/\(e≠0->k= []/\d≠ []):=by
 cases e with
 |zero=>obtain⟨a,x,b,c,rfl,o,h⟩:=r;exact⟨a,x,b,[],c,rfl,o,by rw[h.len];rfl,λ_=>rfl,λe=>absurd rfl e⟩
 |succ e=>obtain⟨a,y,b,c,rfl,o,h,z,_⟩:=r;refine⟨a,[],c,y,b,rfl,o,by rw[h.len];simp[a6.len],λe=>(by cases e),λ_=>⟨rfl,?_⟩⟩;rintro rfl;exact z (aA.xM h)
variable{g B e0:List R}
theorem a2C {a:List (a6.T i)} (k:aA (bw f i) a g) (p:g≠ []) (o:B.take e=g): ∀b c d h,B≠ [.J b c,.J d h]:=by
 rintro b c d h rfl;cases g with
 |nil=>trivial
 |cons r g=>
  cases a with
  |nil=>trivial
  |cons x a=>
   obtain⟨y,_,_,rfl,_⟩:=bw.ptr k.1;cases e with
   |zero=>cases o
   |succ e=>grind
theorem av.Gf (b:av f t 1 g n): ∃a,View t n a (.J g .any)/\f.sub a:=by grind[View.dJ,jK,List.take_of_length_le]
theorem bw.rows {a:U}{b:a6.T 0}{c:Nat}{d h:List R}{k o:Own} (p:bw a 0 b (.ptr c 0)) (r:a c=some (.cells [.J d k,.J h o])):aA isRow (a6.rows b) d:=by obtain⟨_,_,_,_,x,y,z⟩:=p;simp_all
theorem bw.kids {b:U}{a:Nat}{c:a6.T (a+1)}{d:Nat}{k h:List R}{o p:Own} (r:bw b (a+1) c (.ptr d 0)) (x:b d=some (.cells [.J k o,.J h p])):aA (bw b a) (a6.kids c) h:=by obtain⟨_,_,_,_,y,z,a,_⟩:=r;simp_all
variable{M e6 h4:Own}
def rk (a:aS 1 g) (b:flat g=g):bN f 1 (.J g M)=some (g.length,g):=by have:=(jR.J (o:=M) a).src f U.a1;rwa[b]at this
def vr (k:av t f 1 g (.an e v O 1)) (a:g[i]? =some n):cL 1 (.an e v O 1) (.v (.int .i64 (i:Int)))=some (.ptr e i)/\ ∃b,f.read e=some b/\qn false 1 i (some b)=some n:=by have y:=(a5b.1 a).1;obtain⟨z,C,D,b,c,E,o,p,d,r,F,G⟩:=k.an (by rintro rfl;simp at a);simp only[R.an.injEq,and_true]at c;obtain⟨rfl,rfl,rfl⟩:=c;rw[a5K]at p d r;have h:=jG (e:=1) (i:=e) (v:=v) (O:=O) (e2:= .i64) (b1:=(i)) a9w a9w;rw[a5x,a5K]at h;refine⟨h,b,U.af o,?_⟩;rw[<-d,a5T a9w]at a;obtain⟨x,rfl⟩:=a5b.1 a;rw[Bw a9w,a5s x];rfl
theorem a2D {a:List (a6.T i)}{b:a6.T i} (p:e<a.length) (k:2<=a.length) (o: ¬2<=a6.len b):
  ∃d h,(a.set e b)[e - 1]? =some d/\(a.set e b)[e - 1+1]? =some h/\a6.ln a e b=(a.set e b).take (e - 1)++a6.kB d h++(a.set e b).drop (e - 1+2):=by
 rw[a6.ln,if_neg o];by_cases c:e=0
 .subst c;refine⟨b,a[1],a8X a9w,a9x,?_⟩;rw[if_pos rfl,a4T k,a9o a9w];rfl
 .refine⟨a[e - 1],b,by grind,by grind,?_⟩;rw[if_neg c,a4T a9w,a9o a9w,List.take_set_of_le a9w];simp[c]
set_option maxHeartbeats 1000000 in
theorem a2E (k7:1<=e) (Q:e<=8) (r:List Int) (k8:Own) (X:bL e r): ∀(a:Nat) (G:a6.T a) (C:R) (p:U),bw p a G C->GT e a G->
  AC Tryz.prog 95 [C,.J (ad r) k8] p λA c=>p.sub c/\bw c a (a6.cI bC r a G) A:=by
 have b44:=X.len;intro a
 induction a with
 |zero=>intro G C p u l;exact a2B r k8 G C p u l Q
 |succ a ih=>
 intro G C p u l;obtain⟨h,rfl⟩:=a6.gr G;have m:=l.kids k7 Q X;have k9:=En h C r k8 p u a9w λb L=>by
  obtain⟨v,_,b45,a86⟩:=m.hf b L;have:=v.dB;have:=a86.len;grind
 obtain⟨b46,l0,b47,b48,rfl,Y,k,_,_⟩:=u;rw[a6.fo]at k;have b49:=k.len;obtain⟨a88,b50⟩:=m.two;obtain⟨b,L⟩:=m.at_;have Z:a6.cI bC r (a+1) (a6.node h)=a6.node (a6.ln h (a6.cQ bC r (h.map (a6.cM a))) (a6.cI bC r a b)):=by simp only[a6.cI,a6.fo];rw[L]
 obtain⟨_,_,a89,a90⟩:=a6.pz (gw k7 Q) X (a+1) (a6.node h) l.wf l.dO l.ok;rw[Z,a6.dE,a6.dE]at a89;rw[Z,a6.dE]at a90;rw[Z];rw[m.Eo]at k9;clear Z;generalize a6.cQ bC r (h.map (a6.cM a))=o at*;have a16:=(a5b.1 L).1;obtain⟨v,a92,_,_⟩:=m.hf b (a5a L);obtain⟨_,_,a94,a95⟩:=a6.pz (gw k7 Q) X a b v.wf v.dO v.ok;have a18:=λC p u=>ih b C p u v;have a96:=λb L=>(a6.gZ.1 (m.hf b L).2.1).2.1;have a97:=(a6.gZ.1 a92).1;have l1:=a2D (b:=a6.cI bC r a b) a16 a88;have l2:2<=a6.len (a6.cI bC r a b)->a6.ln h o (a6.cI bC r a b)=h.set o (a6.cI bC r a b):=λa=>by rw[a6.ln,if_pos a]
 clear m l;generalize a6.ln h o (a6.cI bC r a b)=l3 at*;generalize a6.cI bC r a b=B at*;refine AC.view (s:=λA c=> ∃d x z D P,A= .ptr d 0/\p d=none/\p x=none/\d≠x/\c d=some (.cells [.J [] .nil,.an x z D 1])/\(∃E,c x=some (.cells E)/\z<=E.length/\E.take z=P)/\aA (bw c a) l3 P/\p.sub c) ?_ ?_;rotate_left
 .rintro A c ⟨d,x,z,D,P,rfl,F,a98,a99,j9,⟨E,f,b51,b00⟩,b01,b02⟩;have b52:P≠ []:=by rintro rfl;grind[aA.xM]
  refine⟨_,_,View.obj (B:= [.J [] .nil]) j9 f a9w a99,?_,d,_,.any,.nil,rfl,U.ag _ _ _,?_,?_,by rw[a6.fo];omega⟩
  .intro n a19 H;have b03:n≠d:=by rintro rfl;rw[F]at H;cases H
   have a27:n≠x:=by rintro rfl;rw[a98]at H;cases H
   rw[U.ao _ _ b03,U.ao _ _ a27];exact b02 _ _ H
  .rw[a6.fo,jK,b00];refine b01.mono λ_ _=>bw.vq λI b04 b05 b06 a19 K=> ?_;have k0:I≠d:=by rintro rfl;rw[j9]at K;simp at K
   have l4:I≠x:=by rintro rfl;grind[a2C,br.cells.inj,Option.some.inj]
   rw[U.ao _ _ k0,U.ao _ _ l4];exact K
  grind[a6.fo]
 have b07:=U.af Y;have b53: ¬(h.length:Int)=0:=a9w;have l5:=bw.c k;refine aM hm Bl ?_;refine cl k9 ?_;rintro _ a29 ⟨M,rfl⟩;have b08:=rd M Y;have l6:=k.mono λ_ _=>bw.mono M;refine u0 (rk l5 (pQ k)) λb54 b09 N=> ?_;obtain⟨g,z,D,b55,rfl,a27,a30,b10,b11,b12,b56,b57⟩:=av.an N (by grind);obtain rfl:z=h.length:=a9w;have a34:=N.1;have b13:=rd (U.ar M a34) Y;obtain⟨_,a36,l7⟩:=l6.get L;obtain⟨b14,_,_,rfl,_⟩:=l7.ptr;refine cl (a18 _ b09 (bw.mono a34 l7)) ?_;rintro A l8 ⟨l9,n0⟩;obtain⟨i,_,_,rfl,_⟩:=n0.ptr;obtain⟨n1,a38,a42,-,y⟩:=av.put (a:= .ptr i 0) (by rw[pQ l6];exact N.mono l9) a9w l5 a36 rfl;have b15:=(vr (N.mono l9) a36).1;have b16:=U.aI a38;rw[a5K]at y a42;have aH:n1.take h.length=l0:=by have I:=l9 _ _ a30;simp_all
 obtain⟨S,n2⟩: ∃S,l8.set g (.cells (putAt n1 o [.ptr i 0]))=S:=⟨_,rfl⟩;have a43:zF l8 S:=λI b04 b05 b06 a19 K=>by
  have l4:I≠g:=by grind
  rw[<-n2,U.ao _ _ l4];exact K
 change av a29 (l8.set g (.cells (putAt n1 o [.ptr i 0]))) 1 _ _ at y;rw[n2]at y;have T:=aA.set o (l6.mono λ_ _ j9=>bw.mono y.1 j9) (bw.vq a43 n0);rw[pQ T]at y;have b17:=T.len;rw[a7S,a7S]at b17;have a47:(l0.set o (.ptr i 0))[o]? =some (.ptr i 0):=a8X a9w;have a48:(h.set o B)[o]? =some B:=by simp[a16]
 clear aH a43 n0 k l5 b07 b08 b13 a30 b10 b11 b12 N;generalize b58:h.set o B=a52 at*;generalize l0.set o (.ptr i 0)=a56 at*;have b59:a52.length=h.length:=by grind
 have a57:=U.ar M y.1;have n3: ∀b∈a52,a6.len b<=4:=λb L=>by
  grind
 obtain⟨b60,b18,b19⟩:=(vr y a47).2;obtain⟨b20,cd,b21,a61,n4,a62,a63,b22,_,_⟩:=(T.get a48|>.elim λC a=>by simp_all:bw S a B (.ptr i 0)).shape;obtain rfl:i=b20:=by simpa using a62
 clear a62 a18 ih k9;have b23:=U.af a63;have a65: ∀(n5 c) (P) (q) (d),p.sub n5->av n5 c 1 P q->aA (bw c a) l3 P->c d=none->
   ∃k1 x z D a68,R.ptr d 0= .ptr k1 0/\p k1=none/\p x=none/\k1≠x/\(c.set d (.cells [.J [] .nil,q])) k1=some (.cells [.J [] .nil,.an x z D 1])/\(∃E,(c.set d (.cells [.J [] .nil,q])) x=some (.cells E)/\z<=E.length/\E.take z=a68)/\aA (bw (c.set d (.cells [.J [] .nil,q])) a) l3 a68/\p.sub (c.set d (.cells [.J [] .nil,q])):=λn5 c P q d n9 a00 k F=>by
  have a01:=U.ae (Y:= .cells [.J [] .nil,q]) U.a1 F;obtain⟨x,z,D,E,rfl,a02,a69,b61,b62,b63,b64,_⟩:=a00.an (λs=>by grind[aA.xM]);exact⟨d,x,z,D,P,rfl,U.bI (U.ar n9 a00.1) F,U.bI n9 a02,(λs=>by rw[s,a69]at F;cases F),U.ag _ _ _,⟨E,a01 _ _ a69,a9w,by simp_all⟩,k.mono λ_ _ a=>bw.mono a01 a,U.ar n9 (U.ar a00.1 a01)⟩
 by_cases c2:2<=a6.len B
 .have aH:(1)<(cd.length)+(a61.length:Int):=a9w;obtain rfl:=l2 c2;clear l2 l1;have b24:=fJ y;refine aa ?_;refine bo λd F=> ?_;exact⟨_,U.a1,a65 a29 S a56 _ d M y T F⟩
 obtain⟨a71,a73,a03,k2,rfl⟩:=l1 c2;have aH: ¬(1)<(cd.length)+(a61.length:Int):=a9w;clear l2 c2 l1;refine aa ?_;clear aH a63 b22 b23 b19 b18 a47 a48 b15 b16 a38 a42;refine o7 [0,7,8] (λ_:Unit=> [(9,.v (.int .i64 ((o - 1:Nat))))]) (λ_ c=>c=S) (λb=> ?_) (λb=> ?_) ?_
 .have b:=of_decide_eq_true b;have s:((o - 1:Nat):Int)=0:=a9w;exact aR
 .have b:=of_decide_eq_false b;have s:(o) - 1=((o - 1:Nat):Int):=a9w;exact aR
 clear n2;rintro _ S rfl b25;generalize o - 1=j at*;have b65:=(a5b.1 k2).1;have b66:=n3 _ (a5a a03);have b67:=n3 _ (a5a k2);obtain⟨_,b26,a04⟩:=T.get a03;obtain⟨_,b27,a05⟩:=T.get k2;obtain⟨b68,b69,b70,b71,b72,rfl,w,b73,_,_⟩:=a04.shape;obtain⟨x,b74,b75,cc,b76,rfl,f,b77,_,_⟩:=a05.shape;obtain⟨b28,b78,b79,b80,b81,s,b29,_,b30,b31⟩:=(bw.mono y.1 l7).shape;obtain rfl:b14=b28:=by simpa using s
 obtain⟨b82,b83,b32,b84⟩:=vr y b26;obtain⟨a74,b85,a06,b86⟩:=vr y b27;have a74:cL 1 (.an g h.length D 1) (.v (.int .i64 ((j)+1)))=some (.ptr g (j+1)):=a74;have b87:=U.af b29;have b88:=rd a57 Y;rw[b32]at a06;obtain rfl:=a4S a06;clear s a06 n3 a94 a95 a96 a97 a03 k2;refine aa ?_;refine o7 [8,9] (λn:List R×Own=> [(12,.J n.1 n.2)]) (λn c=>S.sub c/\aA (bw c a) (a6.kB a71 a73) n.1) (λcU=> ?_) (λcU=> ?_) ?_
 .have cU:=of_decide_eq_true cU;cases a with
  |succ a=>exact absurd (a4Z a9w) (b31 a9w).2
  |zero=>have k:=a04.rows w;have V:=a05.rows f;have b33:=k.len;have b34:=V.len;have a07:=U.af w;have a08:=U.af f;refine u0 (rk (iI k) (nm k)) λa5 b35 t=> ?_;have a07:=rd t.1 w;have a08:=rd t.1 f;refine qC t (rk (iI V) (nm V)) λdu b36 a09=> ?_;obtain⟨a10,a11,k3⟩:=av.Gf a09;refine cl (AC.np (g:= []) a11 (Eh _ _ .any a10 (k.append V) (by rw[a4V];omega))) ?_;rintro _ a13 ⟨a14,k4,k5,rfl,W⟩;refine aa ?_;exact⟨(k4,k5),⟨U.ar k3 a14,W⟩,rfl⟩
 .have cU:=of_decide_eq_false cU;cases a with
  |zero=>exact absurd (by rw[b30 rfl];rfl) cU
  |succ a=>have k:=a04.kids w;have V:=a05.kids f;have b33:=k.len;have b34:=V.len;have a07:=U.af w;have a08:=U.af f;refine u0 (rk (bw.c k) (pQ k)) λa5 b35 t=> ?_;have a07:=rd t.1 w;have a08:=rd t.1 f;refine qC t (rk (bw.c V) (pQ V)) λdu b36 a09=> ?_;obtain⟨a10,a11,k3⟩:=av.Gf a09;refine cl (AC.np (g:= []) a11 (xX S _ _ .any a10 (k.append V) (by rw[a4V];omega) k3)) ?_;rintro _ a13 ⟨a14,k4,k5,rfl,W⟩;refine aa ?_;exact⟨(k4,k5),⟨U.ar k3 a14,W⟩,rfl⟩
 rintro⟨k4,k5⟩ a13 ⟨a15,W⟩ b25
 dsimp only at W|-
 have b89:=W.len;have b90:(a6.kB a71 a73).length<=4:=by grind
 have a81:=y.mono a15;have b37:=T.len;have b21:=hM (e:=1) (O:=g) (b8:=h.length) (i:=D) (v:=j) (e2:= .i64) a9w;obtain⟨b91,b92,b38,_⟩:=(a81.first (i:=j) a9w).src;obtain⟨_,_,_,b93,k0,_,b39,b94,b40,_,_,_⟩:=a81.an (by rintro rfl;simp at b37;omega);simp only[R.an.injEq,and_true]at k0;obtain⟨rfl,rfl,rfl⟩:=k0;refine u0 b38 (λb95 b96 b41=> ?_) (x:=by rw[a4W];omega);refine qC b41 (rk (bw.c W) (pQ W)) (λb97 b42 a83=> ?_) (y:=by rw[a4W];omega);obtain⟨a02,n4,_,k6⟩:=ov (i:=1) (j0:=g) (O:=h.length) (e:=j+2) (e2:= .i64) a9w a9w;have k6:=k6 b42 _ a56 (a83.1 _ _ b39) a9w b40;rw[a5K]at k6;have n4:cg 1 (.an g h.length D 1) (some (.v (.int .i64 ((j)+2)))) none none=some a02:=n4;refine qC a83 k6 (λb98 b43 O=> ?_) (x:=by rw[a5k];omega) (y:=by grind);have b24:=fJ O;have a84:=λ{G:a6.T a}{C:R}=>bw.mono (t:=G) (a:=C) (U.ar a15 O.1);refine aa ?_;refine bo λd F=> ?_;rw[a5K]at O;exact⟨_,U.a1,a65 a13 b43 _ _ d (U.ar a57 a15) O ((((T.take j).mono λ_ _ a=>a84 a).append (W.mono λ_ _ a=>bw.mono O.1 a)).append ((T.drop (j+2)).mono λ_ _ a=>a84 a)) F⟩
variable{Q:List (List Int)}
def zG:(dy 0 (a6.leaf Q)).rows.map Prod.fst=Q:=by rw[Zw];show(Q.map λa=>(a,true)).map Prod.fst=Q;rw[a6W];exact List.map_id' Q
def Gg:(dy 0 (a6.leaf Q)).kind=2:=rfl
def zH {a:a6.T (e+1)}: ¬(dy (e+1) a).kind=2:=by show¬(3)=2;decide
def Gh (c:1<=i) (d:i<=8) {a:List (a6.T e)} (h:eZ i (e+1) (a6.node a)) (b:List Int):hz b (dy (e+1) (a6.node a))=a6.cQ bC b (a.map (a6.cM e)):=by unfold hz;rw[y3];congr 1;show(a.map (c4 e)).map (·.key)= _;rw[a6W];exact a6z λk o=>Zz c d (h.hf k o).1
def Gi {a:List (a6.T e)}:(dy (e+1) (a6.node a)).kids[i]? =a[i]?.map (c4 e):=by rw[y3];show(a.map (c4 e))[i]? = _;simp
variable{q b6:List Int}
theorem Gj (r:1<=i) (x:i<=8) {a:List (a6.T e)} (c:GT i (e+1) (a6.node a)) (y:bL i q) {b:a6.T e} (d:a[a6.cQ bC q (a.map (a6.cM e))]? =some b):q∈a6.bg (e+1) (a6.node a)↔q∈a6.bg e b:=by obtain⟨h,D,z,E⟩:=c.wf;rw[a6.dE]at h;have F: ∀b∈a,a6.WF e b:=z;have k:=c.dO;have o:=c.ok;rw[a6.ga]at k o|-;obtain⟨G,p,L,P⟩:=a6.uC (gw r x) y (by intro C;subst C;simp at h) (λb d=>by grind[a6.gZ]) k o;rw[d]at p;obtain rfl:=a4S p;have S:=a6.qS d;grind[a6.cQ,bC,a6.cM,sK]
theorem Gk {D:Nat} (p:1<=D) (r:D<=8) {c:List Int} (z:bL D c): ∀(a:Nat) (y:a6.T a) (C:ah) (F:Nat),GT D a y->gx C a y->a<F->c∉a6.bg a y->Laid C a (a6.eX bC c a y) (gu D c F C (c4 a y))
 |0,y,C,F+1,h,G,_,f=>by
  obtain⟨L,rfl⟩:=a6.hV y;obtain⟨s,t,_⟩:=h.wf;rw[a6.hX]at s t;have S:=h.ok;have g:(dy 0 (a6.leaf L)).rows.map Prod.fst=L:=zG;rw[gu,qW p r h.jV G];simp only;rw[if_pos Gg,g,ya (Q:=L) p r h.dO S z,decide_eq_false (p:=c∈L) f,if_neg a9A,ZC (Q:=L) p r h.dO S z];exact Ew p r C (a6.dN bC L c) (by rw[a6.ot];omega) (by rw[a6.ot];omega) λE k=>by
   rcases a6.sF.1 k with rfl|k
   .exact z
   .exact S E k
 |a+1,y,C,F+1,h,G,H,f=>by
  obtain⟨b,rfl⟩:=a6.gr y;have i:=h.kids p r z;obtain⟨d,P⟩:=i.at_;have j:=a5a P;have l:c∉a6.bg a d:=λx=>f ((Gj p r h z P).2 x);obtain⟨I,K⟩:=i.two;have T:=(i.hf d j).1;obtain⟨u,M,N,O⟩:=a6.qT (gw p r) z a d T.wf T.dO T.ok l;have ih:=Gk p r z a d C F T (G.2 d j) a9w l;rw[gu,qW p r h.jV G];simp only;rw[if_neg zH,Gh p r h.jV,Gi,P];simp only[a5U];have m:a6.eX bC c (a+1) (a6.node b)=(a6.chunks (b.take (a6.cQ bC c (b.map (a6.cM a)))++a6.eX bC c a d++b.drop (a6.cQ bC c (b.map (a6.cM a))+1))).map a6.node:=by simp only[a6.eX,a6.fo];rw[P]
  rw[m];clear m;have Q:=(a5b.1 P).1;have X:=a6.qS P;generalize a6.cQ bC c (b.map (a6.cM a))=o at*;generalize gu D c F C (c4 a d)=E at*;obtain⟨Y,v⟩:=E;obtain⟨n,V,q⟩:=ih;simp only at n V q;subst n;simp only;have g:(dy (a+1) (a6.node b)).kids.take o++((a6.eX bC c a d).map (c4 a)++(dy (a+1) (a6.node b)).kids.drop (o+1))=(b.take o++a6.eX bC c a d++b.drop (o+1)).map (c4 a):=by rw[y3];show(b.map (c4 a)).take o++(_++(b.map (c4 a)).drop (o+1))= _;simp
  rw[g];have w: ∀E∈(b.take o++a6.eX bC c a d++b.drop (o+1)).flatMap (a6.bg a),bL D E:=λE k=>by
   rw[a5E,a5E,u,a5j,a5j]at k;have S:=h.ok;rw[a6.ga]at S;rcases k with (k|k)|k;grind
   .rcases a6.sF.1 k with rfl|k
    .exact z
    .exact T.ok E k
   grind
  have A:((b.take o++a6.eX bC c a d++b.drop (o+1)).flatMap (a6.bg a)).length=(a6.bg (a+1) (a6.node b)).length+1:=by grind[a6.ga,List.length_append,a6.ot]
  have Z:=h.dB;have j9: ∀d∈b,a6.WF a d:=h.wf.2.2.1;have:=y7 p r v (b.take o++a6.eX bC c a d++b.drop (o+1)) (by grind) (by grind) (λW x=>by
   grind) w (by rw[A];omega) (λk0 e B W x=>by
   simp only[a5j]at x;rcases x with (x|x)|x
   .exact(G.2 W (a5g x)).mono (V.trans e)
   .exact(q (e.zero B) W x).mono e
   .exact(G.2 W (a5y x)).mono (V.trans e))
  exact⟨this.ok,V.trans this.le,this.ins⟩
def iP:eE->ay
 |none=>az
 |some ⟨a,b⟩=>c4 a b
def mw (a:ah):eE->Prop
 |none=>True
 |some ⟨b,c⟩=>gx a b c
def mw.mono {a b:ah} (c:a.le b) {t:eE} (d:mw a t):mw b t:=by
 match t with
 |none=>trivial
 |some ⟨_,_⟩=>exact gx.mono c d
structure pR (a:ah) (t:eE) (r:Except Int ay×ah):Prop where
 ok:r.1= .ok (iP t)
 le:a.le r.2
 ins:r.2.one=false->mw r.2 t
variable{H:ah}
def a2F (F:1<=i) (G:i<=8) {r:ah}{a:List (a6.T e)} (L:1<=a.length) (P:a.length<=2) (k:Laid r e a (.ok (a.map (c4 e)),H)) (S: ∀b∈a,a6.WF e b) (T: ∀o∈a.flatMap (a6.bg e),bL i o) (V:(a.flatMap (a6.bg e)).length<=1048576):
  pR r (pA a) (iG i ((a.map (c4 e)).length+1) H (a.map (c4 e))):=by
 match a,L,P with
 | [b],_,_=>
  have p:iG i (([b].map (c4 e)).length+1) H ([b].map (c4 e))=(.ok (c4 e b),H):=by rw[iG];rfl
  rw[p];exact⟨rfl,k.le,λc=>k.ins c b a9x⟩
 | [d,h],_,_=>
  have x:=y7 F G H [d,h] a9x a9x S T V (λg y c W f=>(k.ins (y.zero c) W f).mono y);rw[a6.pw a9x a9x]at x;rw[iG,if_pos a9x];generalize jQ H i ([d,h].map (c4 e))=o at*;obtain⟨j,z⟩:=o;obtain⟨C,D,E⟩:=x;simp only at C D E;subst C;simp only;have p:iG i (([d,h].map (c4 e)).length) z (([[d,h]].map a6.node).map (c4 (e+1)))=(.ok (c4 (e+1) (a6.node [d,h])),z):=by rfl
  rw[p];exact⟨rfl,k.le.trans D,λc=>E c _ a9x⟩
variable{b7:eE}
def a2G (c:1<=e) (d:e<=8) (h:bL e q) (D:iK e b7) (E:mw H b7) (F:q∉eF b7):pR H (kG b7 q) (jg e q H (iP b7)):=by
 match b7 with
 |none=>have G:=uD c d (Q:= [q]) a9x a9x (by simpa using h);unfold jg;show pR H _ (if az=az then _ else _);rw[if_pos rfl,qV G.oy];exact⟨rfl,lq _ _,λL=>qU L⟩
 |some ⟨a,b7⟩=>
  have b:GT e a b7:=D;have o:q∉a6.bg a b7:=F;have y:=uE c d b.jV;have g:=eZ.high a b7 b.jV;have i:=y.size;have j:=b.dB;have P:=Gk c d h a b7 H ((c4 a b7).size.toNat+1) b E a9w o;obtain⟨z,S,T,V⟩:=a6.qT (gw c d) h a b7 b.wf b.dO b.ok o;have p:kG (some ⟨a,b7⟩) q=pA (a6.eX bC q a b7):=by simp only[kG];rw[if_neg o]
  rw[p];unfold jg;show pR H _ (if c4 a b7=az then _ else(match gu e q ((c4 a b7).size.toNat+1) H (c4 a b7)with|(.error p,r)=>(.error p,r)|(.ok bH,r)=>iG e (bH.length+1) r bH));rw[if_neg y.ne];generalize gu e q ((c4 a b7).size.toNat+1) H (c4 a b7)=x at*;obtain⟨l,m⟩:=x;obtain⟨C,W,f⟩:=P;simp only at C;subst C;simp only;refine a2F c d T V ⟨rfl,W,f⟩ S (λx k=> ?_) (by rw[z,a6.ot];omega);rw[z]at k;rcases a6.sF.1 k with rfl|k
  .exact h
  .exact b.ok x k
theorem a2H (y:1<=e) (z:e<=8) (d:bL e q) (P:iK e b7) (S:(eF b7).length<1000):iK e (kG b7 q)/\(eF (kG b7 q)).length<=(eF b7).length+1:=by
 match b7 with
 |none=>
  refine⟨⟨⟨?_,?_,trivial,λa=>by omega⟩,?_,?_,?_⟩,?_⟩
  .simp[a6.hX]
  .simp[a6.hX]
  .rw[a6.kA];simp
  .rw[a6.kA];simpa using d
  .rw[a6.kA];simp
  .show(a6.bg 0 (a6.leaf [q])).length<= _;rw[a6.kA];simp
 |some ⟨a,b7⟩=>
  have c:GT e a b7:=P;have W:(a6.bg a b7).length<1000:=S;simp only[kG];by_cases k:q∈a6.bg a b7;simp_all;rw[if_neg k];obtain⟨o,h,T,V⟩:=a6.qT (gw y z) d a b7 c.wf c.dO c.ok k;have C:=a6.YF (gw y z) c.dO c.ok d k;have D: ∀p∈a6.dN bC (a6.bg a b7) q,bL e p:=λp r=>by
   rcases a6.sF.1 r with rfl|r
   .exact d
   .exact c.ok p r
  have f:=a6.ot (lt:=bC) (h9:=a6.bg a b7) (h3:=q);generalize a6.dN bC (a6.bg a b7) q=E at*
  match F:a6.eX bC q a b7,T,V with
  | [x],_,_=>
   rw[F]at o h;have b:a6.bg a x=E:=by rw[<-o];simp
   refine⟨⟨a6.jP.of (h x a9x),by rw[b];exact C,by rw[b];exact D,by rw[b];omega⟩,?_⟩;show(a6.bg a x).length<=(a6.bg a b7).length+1;rw[b];omega
  | [G,L],_,_=>
   rw[F]at o h;have b:a6.bg (a+1) (a6.node [G,L])=E:=by trivial
   refine⟨⟨⟨by rw[a6.dE];simp,by rw[a6.dE];simp,h,λ_=>by rw[a6.dE];simp⟩,by rw[b];exact C,by rw[b];exact D,by rw[b];omega⟩,?_⟩;show(a6.bg (a+1) (a6.node [G,L])).length<=(a6.bg a b7).length+1;rw[b];omega
def fq:(a:Nat)->a6.T a->hY
 |0,b=>⟨true,a6.rows b,[]⟩
 |a+1,b=>⟨false,[],(a6.kids b).map (c4 a)⟩
def oM (b:ah):(a:Nat)->a6.T a->Prop
 |0,_=>True
 |a+1,c=> ∀d∈a6.kids c,gx b a d
def oM.mono {b c:ah} (h:b.le c): ∀ {a:Nat}{d:a6.T a},oM b a d->oM c a d
 |0,_,_=>trivial
 | _+1,_,a=>λk o=>gx.mono h (a k o)
def gx.p: ∀ {a:Nat}{b:a6.T a},gx H a b->oM H a b
 |0,_,_=>trivial
 | _+1,_,a=>a.2
def a2I: ∀ {b:Nat}{a:a6.T b},(fq b a).rows.length+(fq b a).kids.length=a6.len a
 |0,a=>rfl
 |b+1,a=>by show 0+((a6.kids a).map (c4 b)).length= _;rw[a5f,a5t];rfl
def Gl: ∀ {b:Nat}{a:a6.T b},hd (dy b a)=fq b a
 |0,a=>by
  obtain⟨c,rfl⟩:=a6.hV a;unfold hd;rw[zG];rfl
 |b+1,a=>rfl
def zI: ∀ {a:Nat}{b:a6.T a},mh H e (fq a b).leaf (fq a b).rows (fq a b).kids=dx H e (dy a b)
 |0,b=>rfl
 |a+1,b=>rfl
theorem Gm (C:1<=e) (D:e<=8) (k:ah): ∀ {c:Nat} (a b:a6.T c),a6.ll c a->a6.ll c b->2<=a6.len a+a6.len b->a6.len a+a6.len b<=5->(∀d∈a6.bg c a,bL e d)->(∀d∈a6.bg c b,bL e d)->
  (a6.bg c a).length+(a6.bg c b).length<=1048576->(∀h,k.le h->h.one=false->oM h c a/\oM h c b)->Laid k c (a6.kB a b) (kD k e (fq c a) (fq c b))
 |0,a,b,_,_,p,r,x,y,_,_=>by
  obtain⟨a,rfl⟩:=a6.hV a;obtain⟨b,rfl⟩:=a6.hV b;rw[a6.hX,a6.hX]at p r;exact Ew C D k (a++b) (by rw[a4V];omega) (by rw[a4V];omega) λd E=>(a5j.1 E).elim (x d) (y d)
 |c+1,a,b,bW,ct,p,r,x,y,F,G=>by
  obtain⟨a,rfl⟩:=a6.gr a;obtain⟨b,rfl⟩:=a6.gr b;rw[a6.dE,a6.dE]at p r;rw[a6.ga]at x y F;rw[a6.ga]at F;have:=y7 C D k (a++b) (by rw[a4V];omega) (by rw[a4V];omega) (λo z=>(a5j.1 z).elim (bW o) (ct o)) (λd E=>by
   grind) (by simp_all) (λh L P o z=>(a5j.1 z).elim ((G h L P).1 o) ((G h L P).2 o))
  rw[a5V]at this;exact this
theorem a2J (C:1<=i) (D:i<=8) (o:ah) {d:List (a6.T e)}{c:a6.T e} (m:v<d.length) (B:2<=d.length) (z: ∀b∈d,eZ i e b/\a6.WF e b/\gx o e b) (H:1<=a6.len c) (n:a6.len c<=4) (T:a6.ll e c)
  (V: ∀E∈a6.bg e c,bL i E) (q: ∀b∈d,(a6.bg e b).length+(a6.bg e c).length<=1048576) (W: ∀r,o.le r->r.one=false->oM r e c):Laid o e (a6.ln d v c) (jT o i (d.map (c4 e)) v (fq e c)):=by
 unfold jT a6.ln;rw[a2I];have s:(a6.bg e c).length<=1048576:=by have:=q _ (a5w m);omega
 by_cases F:2<=a6.len c
 .rw[if_pos F,if_pos F,zI];have t:=a6.gZ.2 ⟨F,n,T⟩;have u:=(ns C D e c (Ev t V s)).1;rw[qV u.oy];simp only;refine⟨?_,lq _ _,λk b a=> ?_⟩
  .rw[<-sL,List.map_set]
  .rcases a7c a with a|rfl
   .exact(z b a).2.2.mono (lq _ _)
   .have S:=qU k;have f:=W _ (lq o (cW (dy e b))) k
    match e,b,S,f with
    |0,b,S,f=>exact S
    |e+1,b,S,f=>trivial
 .rw[if_neg F,if_neg F];have I:a6.len c=1:=a9w;by_cases l:v=0
  .subst l;simp only[if_true];have x:d[1]? =some d[1]:=a4T a9w;rw[a5u,x];generalize d[1]=y at x;have h:=z y (a5a x);have g:=a6.gZ.1 h.2.1;simp only[a5U];rw[qW C D h.1 h.2.2];simp only;rw[Gl];have j:=Gm C D o c y T g.2.2 a9w a9w V h.1.ok (by grind) (λr G k=>⟨W r G k,(h.2.2.mono G).p⟩);generalize kD o i (fq e c) (fq e y)=E at*;obtain⟨w,A⟩:=E;obtain⟨L,p,P⟩:=j;simp only at L p P;subst L;simp only;refine⟨a9x,p,λk b a=> ?_⟩;simp only[a5j]at a;rcases a with (a|a)|a;simp_all
   .exact P k b a
   .exact(z b (a5y a)).2.2.mono p
  .simp only[if_neg l];have x:d[v - 1]? =some d[v - 1]:=a4T a9w;rw[a5u,x];generalize d[v - 1]=y at x;have h:=z y (a5a x);have g:=a6.gZ.1 h.2.1;simp only[a5U];rw[qW C D h.1 h.2.2];simp only;rw[Gl];have j:=Gm C D o y c g.2.2 T a9w a9w h.1.ok V (by grind) (λr G k=>⟨(h.2.2.mono G).p,W r G k⟩);generalize kD o i (fq e y) (fq e c)=E at*;obtain⟨w,A⟩:=E;obtain⟨L,p,P⟩:=j;simp only at L p P;subst L;simp only;refine⟨a9x,p,λk b a=> ?_⟩;simp only[a5j]at a;rcases a with (a|a)|a
   .exact(z b (a5g a)).2.2.mono p
   .exact P k b a
   .exact(z b (a5y a)).2.2.mono p
structure a2K (a:ah) (h:Nat) (t:a6.T h) (r:Except Int hY×ah):Prop where
 ok:r.1= .ok (fq h t)
 le:a.le r.2
 ins:r.2.one=false->oM r.2 h t
theorem Gn {p:Nat} (c:1<=p) (d:p<=8) {b:List Int} (y:bL p b): ∀(a:Nat) (k:a6.T a) (r:ah) (z:Nat),GT p a k->gx r a k->a<z->b∈a6.bg a k->a2K r a (a6.cI bC b a k) (hZ p b z r (c4 a k))
 |0,k,r,z+1,h,E,_,T=>by
  obtain⟨F,rfl⟩:=a6.hV k;have V:(dy 0 (a6.leaf F)).rows.map Prod.fst=F:=zG;rw[hZ,qW c d h.jV E];simp only;rw[if_pos Gg,V,ya (Q:=F) c d h.dO h.ok y,decide_eq_true (p:=b∈F) T,if_pos rfl,ZD (Q:=F) c d h.dO h.ok y T];exact⟨rfl,ah.le_refl,λ_=>trivial⟩
 |a+1,k,r,z+1,h,E,O,T=>by
  obtain⟨x,rfl⟩:=a6.gr k;have C:=h.kids c d y;obtain⟨o,G⟩:=C.at_;have e:=a5a G;have t:=(Gj c d h y G).1 T;obtain⟨u,Q⟩:=C.two;obtain⟨D,v,_,_⟩:=C.hf o e;have X:=a6.gZ.1 v;obtain⟨w,A,Y,B⟩:=a6.pz (gw c d) y a o D.wf D.dO D.ok;have ih:=Gn c d y a o r z D (E.2 o e) a9w t;rw[hZ,qW c d h.jV E];simp only;rw[if_neg zH,Gh c d h.jV,Gi,G];simp only[a5U];have f:a6.cI bC b (a+1) (a6.node x)=a6.node (a6.ln x (a6.cQ bC b (x.map (a6.cM a))) (a6.cI bC b a o)):=by simp only[a6.cI,a6.fo];rw[G]
  rw[f];clear f;have H:=(a5b.1 G).1;generalize a6.cQ bC b (x.map (a6.cM a))=I at*;generalize hZ p b z r (c4 a o)=L at*;obtain⟨K,g⟩:=L;obtain⟨i,W,j⟩:=ih;simp only at i W j;subst i;simp only;have Z:=D.dB;have j9:(a6.bg a (a6.cI bC b a o)).length<=1000:=by grind
  have M:=a2J c d g H u (λP S=>⟨(C.hf P S).1.jV,(C.hf P S).2.1,(E.2 P S).mono W⟩) a9w B A (λL l=>by
   rw[w]at l;exact D.ok L (a7T.1 l).1) (λP S=>by have:=(C.hf P S).1.dB;omega) (λk0 m N=>(j (m.zero N)).mono m)
  have V:(dy (a+1) (a6.node x)).kids=x.map (c4 a):=rfl;rw[V];generalize jT g p (x.map (c4 a)) I (fq a (a6.cI bC b a o))=L at*;obtain⟨K,k1⟩:=L;obtain⟨n,q,s⟩:=M;simp only at n q s;subst n;simp only;exact⟨rfl,W.trans q,s⟩
def vs:(b:Nat)->a6.T b->eE
 |0,a=>if a6.len a=0 then none else some ⟨0,a⟩
 |b+1,a=>match a6.kids a with
  | [c]=>some ⟨b,c⟩
  | _=>some ⟨b+1,a⟩
def ju (a:eE) (c:List Int):eE:=
 match a with
 |none=>none
 |some ⟨b,a⟩=>if c∈a6.bg b a then vs b (a6.cI bC c b a)else some ⟨b,a⟩
theorem a2L (C:1<=e) (D:e<=8) (j:bL e q) (l:iK e b7) (m:mw H b7) (S:q∈eF b7):pR H (ju b7 q) (lo e q H (iP b7)):=by
 match b7 with
 |none=>cases S
 |some ⟨a,b7⟩=>
  have d:GT e a b7:=l;have T:q∈a6.bg a b7:=S;have V:=uE C D d.jV;have h:=eZ.high a b7 d.jV;have w:=V.size;have A:=d.dB;have B:=Gn C D j a b7 H ((c4 a b7).size.toNat+1) d m a9w T;obtain⟨n,r,x,o⟩:=a6.pz (gw C D) j a b7 d.wf d.dO d.ok;have s:ju (some ⟨a,b7⟩) q=vs a (a6.cI bC q a b7):=by simp only[ju];rw[if_pos T]
  have t:iP (some ⟨a,b7⟩)=c4 a b7:=rfl;rw[s];unfold lo;rw[t,if_neg V.ne];have p: ∀E∈a6.bg a (a6.cI bC q a b7),bL e E:=λE u=>by
   rw[n]at u;exact d.ok E (a7T.1 u).1
  have z:(a6.bg a (a6.cI bC q a b7)).length<=1000:=by grind
  have P:=d.wf;clear w V m s t l;generalize hZ e q ((c4 a b7).size.toNat+1) H (c4 a b7)=E at*;generalize a6.cI bC q a b7=b at*;obtain⟨K,M⟩:=E;obtain⟨v,F,k⟩:=B;simp only at v F k;subst v;simp only;clear S T d h A n
  match a,b7,b,r,x,o,p,z,k,P with
  |0,b7,b,r,x,o,p,z,k,P=>
   show pR H (if a6.len b=0 then none else some ⟨0,b⟩) _;have W: ¬((fq 0 b).leaf=false/\(fq 0 b).kids.length=1):=λh=>absurd h.1 (show¬true=false by decide);by_cases c:a6.len b=0
   .rw[if_pos c,if_pos (⟨rfl,c⟩)];exact⟨rfl,F,λ_=>trivial⟩
   .have f: ¬((fq 0 b).leaf=true/\(fq 0 b).rows.length=0):=λh=>c h.2;rw[if_neg c,if_neg f,if_neg W,zI];have g:=(ns C D 0 b ⟨⟨a9w,o,trivial,λh=>by omega⟩,p,a9w⟩).1;rw[qV g.oy];exact⟨rfl,F.trans (lq _ _),λc=>qU c⟩
  |a+1,b7,b,r,x,o,p,z,k,P=>
   have N:=P.2.2.2 a9w;have f: ¬((fq (a+1) b).leaf=true/\(fq (a+1) b).rows.length=0):=λh=>absurd h.1 (show¬false=true by decide);rw[if_neg f];obtain⟨y,rfl⟩:=a6.gr b;rw[a6.dE]at x o
   match y,x,o,r,p,z,k with
   | [],x,_,_,_,_,_=>simp at x;omega
   | [i],_,_,r,p,z,k=>rw[if_pos (⟨rfl,rfl⟩)];exact⟨rfl,F,λc=>k c i (by simp[a6.fo])⟩
   |G::L::y,_,o,r,p,z,k=>
    have W: ¬((fq (a+1) (a6.node (G::L::y))).leaf=false/\(fq (a+1) (a6.node (G::L::y))).kids.length=1):=λh=>by
     have:=h.2;rw[show(fq (a+1) (a6.node (G::L::y))).kids=(G::L::y).map (c4 a)from rfl]at this;simp at this
    rw[if_neg W,zI];have g:=(ns C D (a+1) (a6.node (G::L::y)) ⟨⟨by rw[a6.dE];simp,by rw[a6.dE];exact o,r,λ_=>by rw[a6.dE];simp⟩,p,a9w⟩).1;rw[qV g.oy];exact⟨rfl,F.trans (lq _ _),λc=>⟨qU c,λi I=>(k ((lq _ _).zero c) i I).mono (lq _ _)⟩⟩
theorem a2M (P:1<=e) (S:e<=8) (T:bL e q) (F:iK e b7):iK e (ju b7 q)/\(eF (ju b7 q)).length<=(eF b7).length:=by
 match b7 with
 |none=>exact⟨trivial,a5z _⟩
 |some ⟨c,b7⟩=>
  have d:GT e c b7:=F;simp only[ju];by_cases G:q∈a6.bg c b7
  .rw[if_pos G];obtain⟨b,h,o,k⟩:=a6.pz (gw P S) T c b7 d.wf d.dO d.ok;have i:=a8j (λa=>decide (a≠q)) (a6.bg c b7);have y:=d.dO.filter λa=>decide (a≠q);have z: ∀C∈(a6.bg c b7).filter (λa=>decide (a≠q)),bL e C:=λC V=>d.ok C (a7T.1 V).1;have j:=d.dB;have p:=d.wf;show iK e _/\ _<=(a6.bg c b7).length;generalize (a6.bg c b7).filter (λa=>decide (a≠q))=W at*;generalize a6.cI bC q c b7=a at*;generalize (a6.bg c b7).length=r at*;clear G F d
   match c,a,b7,b,h,o,k,p with
   |0,a,b7,b,h,o,k,p=>
    show iK e (if a6.len a=0 then none else some ⟨0,a⟩)/\(eF (if a6.len a=0 then none else some ⟨0,a⟩)).length<=r;by_cases L:a6.len a=0
    .rw[if_pos L];exact⟨trivial,by simp[eF]⟩
    .rw[if_neg L];refine⟨⟨⟨a9w,k,trivial,λl=>by omega⟩,by rw[b];exact y,by rw[b];exact z,by rw[b];omega⟩,?_⟩;show(a6.bg 0 a).length<=r;rw[b];omega
   |c+1,a,b7,b,h,o,k,p=>
    have m:=p.2.2.2 a9w;obtain⟨D,rfl⟩:=a6.gr a;rw[a6.dE]at o k
    match D,o,k,h,b with
    | [],o,_,_,_=>simp at o;omega
    | [E],_,_,h,b=>
     have x:a6.bg c E=W:=by rw[<-b,a6.ga];simp
     refine⟨⟨a6.jP.of (h E (by simp[a6.fo])),by rw[x];exact y,by rw[x];exact z,by rw[x];omega⟩,?_⟩;show(a6.bg c E).length<=r;rw[x];omega
    |f::g::D,_,k,h,b=>refine⟨⟨⟨by rw[a6.dE];simp,by rw[a6.dE];exact k,h,λ_=>by rw[a6.dE];simp⟩,by rw[b];exact y,by rw[b];exact z,by rw[b];omega⟩,?_⟩;show(a6.bg (c+1) (a6.node (f::g::D))).length<=r;rw[b];omega
  simp_all
def a2N (q:1<=e) (s:e<=8) (b:List Int) (S:Own) (t:bL e b) (a:eE) (o:R) (p:U) (C:fN p a o) (H:iK e a):
  AC Tryz.prog 53 [o,.J (ad b) S] p λT u=>p.sub u/\ ∃v h,T= .aK [v,.v (.bool h)]/\fN u (ju a b) v:=by
 have D: ∀o h:R,aX false 1 [o,h]=o:=λ_ _=>rfl;have E: ∀o h:R,aX false 1 ([o,h].drop 1)=h:=λ_ _=>rfl;refine bd hm KW a9x ?_
 match a with
 |none=>obtain rfl:=C;refine bT ?_;refine ai (Zp p) ?_;rintro _ p ⟨rfl,rfl⟩;refine bT ?_;refine ai (xZ [] [] .nil S b p trivial a9x a9x) ?_;rintro _ _ ⟨rfl,rfl⟩;have I:decide (b∈([]))=false:=a9x;refine aj @I ?_;exact⟨_,U.a1,U.a1,_,_,rfl,rfl⟩
 |some ⟨c,a⟩=>
  obtain⟨h,k3,k4,rfl,k5⟩:=bw.ptr C;have r:GT e c a:=H;have k6:=r.dB;refine bT ?_;refine ai (xY c a (.ptr h 0) p C a9w) ?_;rintro _ l ⟨V,K,M,rfl,N⟩;refine bT ?_;refine ai (xZ _ K M S b l N a9w λT O=>by have:=(r.ok T O).len;omega) ?_;rintro _ l ⟨rfl,rfl⟩;by_cases W:b∈a6.bg c a
  .refine aj @W ?_;refine ai (a2E q s b S t c a (.ptr h 0) l (bw.mono V C) r) ?_;rintro T m ⟨Q,z⟩;have X:ju (some ⟨c,a⟩) b=vs c (a6.cI bC b c a):=by simp only[ju];rw[if_pos W]
   rw[X];obtain⟨_,k7,k8,F⟩:=a6.pz (gw q s) t c a r.wf r.dO r.ok;have k9:=r.wf;have f:=U.ar V Q;generalize a6.cI bC b c a=x at*;cases c with
   |zero=>
    obtain⟨Y,g,w,Z,rfl,k,d⟩:=id z;have G:=d.len;have l0:g.length<=4:=by rw[G];exact F
    have L:(([]:List R).length:Int)=0:=rfl;have y: ¬((0:Int)=1):=a9w;refine aj (bm (U.af k) @D @E @L @y) ?_;by_cases A:(g.length:Int)=0
    .have n:(0)+(g.length:Int)=0:=a9w;refine aj (c6 (U.af k) @D @E @L @y @A @n) ?_;refine⟨_,U.a1,f,_,_,rfl,?_⟩;show fN m (if a6.len x=0 then none else some ⟨0,x⟩) _;rw[if_pos (by show(a6.rows x).length=0;omega)];rfl
    .have n: ¬((0)+(g.length:Int)=0):=a9w;refine aj (c6 (U.af k) @D @E @L @y @A @n) ?_;refine⟨_,U.a1,f,_,_,rfl,?_⟩;show fN m (if a6.len x=0 then none else some ⟨0,x⟩) _;rw[if_neg (by show¬(a6.rows x).length=0;omega)];exact z
   |succ c=>
    obtain⟨B,rfl⟩:=a6.gr x;obtain⟨Y,i,w,Z,rfl,k,d,j,_⟩:=id z;rw[a6.fo]at d j;have G:=d.len;rw[a6.dE]at F
    match B,i,d,j,G,k,z,F with
    | [],_,_,j,_,_,_,_=>exact absurd rfl j
    | [j9],[l1],d,_,_,k,_,_=>
     have l2:=d.1.cells;obtain⟨P,l3,l4,rfl,_⟩:=bw.ptr d.1;have k0:cL 1 (.J [.ptr P 0] w) (.v (.int .i64 0))=some (.bV [.ptr P 0]):=by rw[hJ a9w];rfl
     have k1:dp false 1 m (.bV [.ptr P 0])=some (.ptr P 0):=rfl;have y:(([R.ptr P 0]).length)=1:=rfl;refine aj (bs (U.af k) @D @E @y @k0 @k1) ?_;refine⟨_,U.a1,f,_,_,rfl,?_⟩;exact d.1
    |j9::c2::B,i,d,_,G,k,z,F=>simp only[a4Y]at G F;have y: ¬((i.length:Int)=1):=a9w;have L:(([]:List R).length)=0:=rfl;have k2: ¬((i.length:Int)+0=0):=a9w;refine aj (bs (U.af k) @D @E @L @y @k2) ?_;refine⟨_,U.a1,f,_,_,rfl,?_⟩;exact z
  .refine aj @W ?_;refine⟨_,U.a1,V,_,_,rfl,?_⟩;simp only[ju,if_neg W];exact bw.mono V C
structure aT where
 name:List UInt8
 aD:List (List UInt8)
 rows:List (List Int)
 bM:aC
 cq:eE
instance:Inhabited aT:=⟨⟨[],[],[],.nil,none⟩⟩
def aT.bx (a:aT):aL:=⟨a.name,a.aD,bp a.bM,iP a.cq⟩
def bX (a:List aT) (b:List UInt8):Nat:=a.findIdx λc=>decide (c.name=b)
def jv (a:List aT) (b:List UInt8):Nat:=(a.takeWhile λc=> !c5 b c.name).length
def bP (a:List Int):Int:=a.getD 0 0
def hj (a:List Int) (c:List (List Int)):List (List Int):=c.takeWhile (λb=> !decide (bP a<bP b))++a::c.dropWhile (λb=> !decide (bP a<bP b))
def rl (a:List (List Int)):List (List Int):=a.foldl (λb c=>hj c b) []
def aT.put (a:aT) (b:List Int):aT:=⟨a.name,a.aD,rl (a.rows++ [b]),(cX (a.aD.length+1) b a.bM 0).1,kG a.cq b⟩
def aT.del (a:aT) (b:List Int):aT:=⟨a.name,a.aD,a.rows.filter (λc=>decide (c≠b)),(lx (a.aD.length+1) b a.bM).1,ju a.cq b⟩
def fr (a:List aT) (b:cB):Int×List aT:=
 if eu b=false then(1,a)
 else if b.kind=1 then(if bX a b.table<a.length then(4,a)else if 7<a.length then(10,a)else(0,a.take (jv a b.table)++⟨b.table,b.aD,[],.nil,none⟩::a.drop (jv a b.table)))
 else if a.length<=bX a b.table then(3,a)
 else if b.kind=2 then(0,a.eraseIdx (bX a b.table))
 else if b.row.length≠(a.getD (bX a b.table) default).aD.length+1 then(6,a)
 else if b.kind=4 then(if b.row∈(a.getD (bX a b.table) default).rows then(0,a.set (bX a b.table) ((a.getD (bX a b.table) default).del b.row))else(9,a))
 else if(a.getD (bX a b.table) default).rows.any (λc=>decide (bP c=bP b.row))=true then(8,a)
 else(0,a.set (bX a b.table) ((a.getD (bX a b.table) default).put b.row))
structure eQ (n:Nat) (t:aT):Prop where
 right:eu ⟨1,t.name,t.aD,[]⟩=true
 dz:lA (t.aD.length+1) n t.bM
 fX:t.bM.all.Perm t.rows
 go:iK (t.aD.length+1) t.cq
 nJ:(eF t.cq).Perm t.rows
 dO:t.rows.Pairwise (λa b=>bP a<bP b)
 dB:t.rows.length<=n
variable{j7:aT}
theorem eQ.c (a:eQ e j7):1<=j7.aD.length/\j7.aD.length<=7:=by have b:=a.right;simp_all [eu,nt]
def eQ.row (a:eQ e j7) (b:q∈j7.rows):bL (j7.aD.length+1) q:=a.dz.fh q (aC.gE (a.fX.mem_iff.2 b))
def eQ.le (a:eQ e j7) (b:e<=i):eQ i j7:=⟨a.right,⟨a.dz.fh,a.dz.vf,by have:=a.dz.cm;omega⟩,a.fX,a.go,a.nJ,a.dO,by have:=a.dB;omega⟩
structure df (n:Nat) (cJ:List aT):Prop where
 ok: ∀t∈cJ,eQ n t
 dO:cJ.Pairwise (λa b=>c5 a.name b.name=true)
 dB:cJ.length<=8
theorem df.nil {n:Nat}:df n []:=⟨λb a=>(by cases a),.nil,a9x⟩
def zJ (b:1<=e) (c:e<=8) (a:iK e b7):(b7=none/\iP b7=az)\/(b7≠none/\jh e (eF b7).length (iP b7)):=by
 match b7,a with
 |none,_=>exact .inl ⟨rfl,rfl⟩
 |some ⟨d,b7⟩,a=>exact .inr ⟨a9x,uE b c (GT.jV a)⟩
theorem eQ.bx {d:Nat}{h:aT} (a:eQ d h) (x:d<=1000):fS h.bx=true:=by
 have y:=a.c;have c:=fg a9w a9w a.dz.fh (by have:=a.dz.cm;omega);have z:=a.dz.cm;have C:=a.fX.length_eq;have k:=a.nJ.length_eq;have D:=a.dB;have o:=c.live;unfold fS aT.bx
 dsimp only
 simp only[a4X,a6E,decide_eq_true_eq];rcases zJ a9w a9w a.go with ⟨p,b⟩|⟨p,b⟩
 .have r:(az).live=0:=rfl;rw[p]at k;refine⟨a.right,c.ok a9w,?_,?_,by rw[c.key];rfl,.inl b⟩
  .rw[b];unfold fA;rfl
  .rw[b,o,r];simp[eF]at k;omega
 .refine⟨a.right,c.ok a9w,b.ok a9w,?_,by rw[c.key];rfl,.inr ⟨b.key.len,?_⟩⟩
  .rw[o,b.live];omega
  .rw[b.size,b.live]
variable{X:List aT}
def df.cat (a:df e X) (b:e<=1000):cw (X.map aT.bx)=true:=by
 refine oL.2 ⟨λk c=> ?_,?_,by rw[a5f];exact a.dB⟩
 .obtain⟨d,h,rfl⟩:=a5o.1 c;exact(a.ok d h).bx b
 .rw[a7q];exact a.dO
theorem zK: ∀ {a:List aL}{nm:List UInt8},a.Pairwise (λh k=>c5 h.name k.name=true)->(a.findIdx λb=>decide (b.name=nm))<a.length->cY a nm=a.findIdx λb=>decide (b.name=nm)
 | [],nm,_,c=>by rfl
 |b::a,nm,o,c=>by
  obtain⟨x,p⟩:=a5D.1 o;rw[List.findIdx_cons]at c|-;unfold cY;rw[a6n];by_cases d:b.name=nm
  .rw[decide_eq_true d];simp[d,vg]
  .rw[decide_eq_false d]at c|-;simp only[cond_false,a4Y]at c|-;have ih:=zK (nm:=nm) p a9w;have r:c5 b.name nm=true:=by grind
   rw[if_pos r,a4Y];unfold cY at ih;rw[ih]
variable{w:List UInt8}
theorem vt:((X.map aT.bx).findIdx λa=>decide (a.name=w))=bX X w:=by rw[List.findIdx_map];rfl
theorem th (a:bX X w<X.length):(X.getD (bX X w) default).name=w:=by have:=List.findIdx_getElem (w:=a);rw[a5M,a4T a];exact of_decide_eq_true this
theorem vu (a:bX X w<X.length):X.getD (bX X w) default∈X:=by simp_all
def Gp (b:X.length<=bX X w): ∀a∈X,a.name≠w:=λa c d=>by
 have:=List.findIdx_lt_length_of_exists (p:=λa:aT=>decide (a.name=w)) ⟨a,c,decide_eq_true d⟩;have h:X.length<=X.findIdx λa=>decide (a.name=w):=b;omega
theorem zL (c:df e X):gF (X.map aT.bx) w=decide (bX X w<X.length):=by
 have d:(X.map aT.bx).Pairwise (λh k=>c5 h.name k.name=true):=by rw[a7q];exact c.dO
 by_cases a:bX X w<X.length
 .have b:=zK d (by rw[vt,a5f];exact a);rw[vt]at b;unfold gF;rw[b,decide_eq_true a,a5f,decide_eq_true a,a6s];refine decide_eq_true ?_;have:=th a;rw[a5M,a4T (by rw[a5f];exact a),a6P,a8L];rw[a5M,a4T a,a6P]at this;exact this
 .rw[decide_eq_false a];unfold gF;rw[a8i];by_cases c2:cY (X.map aT.bx) w<(X.map aT.bx).length
  .right;refine decide_eq_false λb=> ?_;rw[a5M,a4T c2,a6P,a8L]at b;exact Gp a9w _ (a5w (by rw[a5f]at c2;exact c2)) b
  .left;simp_all
theorem Gq (a:df e X) (d:bX X w<X.length):cY (X.map aT.bx) w=bX X w:=by
 have h:(X.map aT.bx).Pairwise (λb c=>c5 b.name c.name=true):=by rw[a7q];exact a.dO
 grind[vt,zK,List.length_map]
theorem pS:(X.map aT.bx).find? (λa=>decide (a.name=w))=(X[bX X w]?).map aT.bx:=by rw[List.find?_eq_getElem?_findIdx,vt,a5u]
theorem a2O {a:List UInt8} (b:w≠a):(!c5 a w)=c5 w a:=by grind[c5,absurd,FM,vh,vg]
theorem a2P (a:X.length<=bX X w):cY (X.map aT.bx) w=jv X w:=by
 have b:=Gp a;clear a;unfold cY jv
 induction X with
 |nil=>rfl
 |cons c X ih=>have d:=a2O (b c a9x);have ih:=ih λh k=>b h (by simp[k]);rw[a5r,a6n,a6n,d];show(if c5 c.name w=true then _ else _:List aL).length= _;grind
end Go.Proofs.YtlgnfcaolejgeaaGreat
