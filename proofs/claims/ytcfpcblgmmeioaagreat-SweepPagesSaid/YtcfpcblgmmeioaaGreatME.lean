import Derived.Test.YtcfpcblgmmeioaaGreatMD
set_option linter.all false
set_option maxRecDepth 100000
namespace Go.Proofs.YtcfpcblgmmeioaaGreat
open Go Go.bD
def r9 {b k:Type}{c:b->List k}{d:Nat}: ∀ {l:List b},(∀a∈l,(c a).length<=d)->(l.flatMap c).length<=l.length*d
 | [],_=>by simp
 |a::l,h=>by
  have r:=h a aaV;have x:=r9 (l:=l) λo p=>h o (by simp[p]);rw[a7a,a6A,a6E,a7I];omega
structure aq.hE (k:aq):Prop where
 aT:k.aT.length<=8
 aS:k.aS.length<=8
 key:k.key.length<=8
 mv:0<=k.live
 live:k.live<=1048576
 mw:0<=k.size
 size:k.size<=1048576
variable{q b8:List Int}{e i v M b9 j2:Nat}
theorem lv (a:cO q b8 e=true):q.length=e/\b8.length=e/\1<=e/\e<=8:=by simp_all [cO]
variable{w j3:aq}
theorem ra (a:fl e w=true):w.aT.length<=8/\w.aS.length<=8/\0<=w.live/\w.live<=1048576/\0<=w.size/\w.size<=1048576:=by
 unfold fl at a;rw[a8l]at a;rcases a with a|a
 .have:=of_decide_eq_true a;subst this;simp[az]
 .simp only[a6B,a8d,aaH,decide_eq_false_iff_not]at a;obtain⟨c,b⟩:=a;have:w.aT.length<=8/\w.aS.length<=8:=by
   split at b;simp_all
   .have:=lv b;omega
  omega
variable{b4:bY}
theorem uR (o:e<=8) (a:dQ e b4=true): ∀b∈b4.kids,b.hE:=by intro b c;unfold dQ at a;simp only[a6B,a6P]at a;obtain⟨⟨_,d⟩,p⟩:=a;obtain⟨h,k,a3,a4,a5,di⟩:=ra (d b c);refine⟨h,k,?_,a3,a4,a5,di⟩;grind
def y5 {a:List Int×Bool} (b:a.1.length<=8):(gp a).length<=100:=by simp[gp,xR];omega
def sQ (b:w.sum.length=32) (a:w.hE):(dW w).length<=300:=by have c:=a.aT;have d:=a.aS;have h:=a.key;simp[dW,xR,ky,b];omega
theorem y6 (a:bY) (k9 l0:List R) (z C:R) (D:Nat) (a04:1<=D) (l1:D<=8) (s:U) (E:fK s a z C k9 l0):
  AC Tryz.prog 156 [gO a z C,.v (.int .i64 (D:Int))] s λh o=>s.sub o/\match sK D a with
   |none=>h= .aJ [.J [] .nil,.v (.int .i64 1)]
   |some F=> ∃a05,h= .aJ [.J (F.map ak) a05,.v (.int .i64 0)]:=by
 have l2:=E.hd;have l3:=E.sP;have a88:=E.kB;have a89:=E.hZ;refine bc hm Pa aaV ?_;have K: ∀k0,(R.agg k0).cells=k0:=λ_=>rfl;have a90: ∀y F S,aL true 3 [y,F,S]= .agg [y,F,S]:=λ_ _ _=>rfl;have a06: ∀y F S:R,List.take 3 [y,F,S]= [y,F,S]:=λ_ _ _=>rfl;refine aj @K ?_;refine aN λj a07=> ?_;have t:=U.af (X:= .cells [.v (.int .u8 (a.kind.toNat)),z,C]) (U.a6) a07;have c2:(s.set j (.cells [.v (.int .u8 (a.kind.toNat)),z,C])) j=some (.cells [.v (.int .u8 (a.kind.toNat)),z,C]):=U.ai _ _ _;simp -dsimp -implicitDefEqProofs (disch:=first|omega|assumption|(simp only[bd,Nat.reduceAdd];try omega)) only[go_sem,simprocAttr,-List.reduceReplicate,K,a06];refine ah (DS a k9 l0 z C D a04 l1 _ (E.mono t)) ?_;rintro _ _ ⟨rfl,rfl⟩;unfold sK;cases l4:dQ D a with
 |false=>refine aj @a7u ?_;exact⟨_,U.a6,t⟩
 |true=>
 obtain⟨a08,a92,a94⟩:=kz l4;have l5:=uR l1 l4;refine aj @a7o ?_;refine aN λc a09=> ?_;have l6:j≠c:=by grind
 obtain⟨p,k1⟩: ∃p:U,p=s.set j (.cells [.v (.int .u8 (a.kind.toNat)),z,C]):=⟨_,rfl⟩;rw[<-k1]at t c2;have l7:p c=none:=by rw[k1];exact a09
 have a10:cx p c [] (p.set c (.cells [.J [] .nil,.v (.int .i64 0)])):=⟨.nil,bf.nil U.a6⟩;have l8:=E.mono t;have a11:=l8.mc;have a13:=l8.gJ;have M: ∀aV o,cx p c aV o->o j=some (.cells [.v (.int .u8 (a.kind.toNat)),z,C]):=λaV o u=>u.get l6 c2;have l9: ∀aV o,cx p c aV o->p.sub o:=λaV o u=>u.sub l7;have a14:cG a=([a.kind]++ [UInt8.ofNat a.rows.length]++a.rows.flatMap gp++ [UInt8.ofNat a.kids.length])++a.kids.flatMap dW:=by simp[cG]
 have n0: ∀b,((a.rows.take b).flatMap gp).length<=400:=λb=>by
  have:=r9 (l:=a.rows.take b) λh a95=>y5 (a:=h) (by grind);grind
 rw[<-k1];simp -dsimp -implicitDefEqProofs (disch:=first|omega|assumption|(simp only[bd,Nat.reduceAdd];try omega)) only[go_sem,simprocAttr,-List.reduceReplicate,U.ae c2,l6];refine ah (nu p _ c [] a.kind a10 aaV) ?_;intro _ a15 n1;simp -dsimp -implicitDefEqProofs (disch:=first|omega|assumption|(simp only[bd,Nat.reduceAdd];try omega)) only[go_sem,simprocAttr,-List.reduceReplicate,U.ae (M _ _ n1),l2,iF];refine ah (nu p a15 c _ (UInt8.ofNat a.rows.length) n1 aaV) ?_;intro _ a96 a16;simp -dsimp -implicitDefEqProofs (disch:=first|omega|assumption|(simp only[bd,Nat.reduceAdd];try omega)) only[go_sem,simprocAttr,-List.reduceReplicate,U.ae (M _ _ a16),l2];refine cm (λr o=> ∃b:Nat,b<=a.rows.length/\cx p c ([a.kind]++ [UInt8.ofNat a.rows.length]++(a.rows.take b).flatMap gp) o/\r 2= .ptr j 0/\r 6= .ptr c 0/\r 28=z/\r 29= .v (.int .i64 a.rows.length)/\r 30= .v (.int .i64 b))
  (λr _=>match r 30 with| .v (.int _ k2)=>a.rows.length - k2.toNat| _=>0) ⟨0,aaU,by trivial,?_⟩ ?_
 .exact kv
 rintro r v ⟨b,a18,x,T,k,l,m,n⟩;by_cases w:(b:Int)<a.rows.length
 .have W:a.rows[b]? =some a.rows[b]:=a6y aaU;have N:a.rows.take (b+1)=a.rows.take b++ [a.rows[b]]:=by rw[a7C,W];rfl
  have a19:=a08 _ (a6Z (n:=b) aaU);generalize a.rows[b]'aaU=h at W N a19;obtain⟨y,k3,q,rfl⟩:=E.rows.get W;obtain⟨a27,k4,O⟩:=a11.get b _ k3;have A:=O.ld v (l9 _ _ x) true 2 aaU (by simp[R.cells]);have n2:=n0 b;have a29:aL true 2 (R.agg [.J (ad h.1) q,.v (.bool h.2)]).cells= .agg [.J (ad h.1) q,.v (.bool h.2)]:=rfl;rw[a29]at A;refine aj (bt @T @k @l @m @n @w @k4 @A) ?_;refine aN λn3 a30=> ?_;have a34: ∀y F S D:R,putAt [y,F] 0 [S,D]= [S,D]:=λ_ _ _ _=>rfl;obtain⟨a36,a38,Q⟩:=x.new (ob:= .cells [.J (ad h.1) q,.v (.bool h.2)]) a30;have a42:(p.set n3 (.cells [.J (ad h.1) q,.v (.bool h.2)])) n3=some (.cells [.J (ad h.1) q,.v (.bool h.2)]):=U.ai _ _ _;refine aj (bt @T @k @l @m @n @K @a34 @U.set_set) ?_;refine ah (Z7 _ _ c _ h.2 Q (by grind)) ?_;intro _ a43 B;refine aj (bx @T @k @l @m @n (U.ae (B.get a36 a42))) ?_;refine ah (sI _ _ c _ h.1 q aaU B (by grind)) ?_;intro _ a47 X;refine aj (bh @T @k @l @m @n) ?_;refine⟨⟨b+1,aaU,?_,aaV⟩,aaU⟩;have H:=X.base (U.af (U.a6) a38);rw[N,a7r];simpa[gp] using H
 .obtain rfl:b=a.rows.length:=aaU;rw[a6V]at x;have n2:=n0 a.rows.length;rw[a6V]at n2;simp -dsimp -implicitDefEqProofs (disch:=first|omega|assumption|(simp only[bd,Nat.reduceAdd];try omega)) only[go_sem,simprocAttr,-List.reduceReplicate,T,k,l,m,n,w,U.ae (M _ _ x),l3,iF];refine ah (nu p v c _ (UInt8.ofNat a.kids.length) x (by grind)) ?_;intro _ a97 n4;have a98:([a.kind]++ [UInt8.ofNat a.rows.length]++a.rows.flatMap gp++ [UInt8.ofNat a.kids.length]).length<=500:=by grind
  generalize [a.kind]++ [UInt8.ofNat a.rows.length]++a.rows.flatMap gp++ [UInt8.ofNat a.kids.length]=k5 at*;have n5: ∀b,((a.kids.take b).flatMap dW).length<=1200:=λb=>by
   have:=r9 (l:=a.kids.take b) λd a48=>by
    have hm:=a6M a48;obtain⟨a99,a52,rfl⟩:=a7l hm;obtain⟨y,_,Y,_⟩:=E.kids.get (a6y a52);exact sQ Y (l5 _ hm)
   grind
  simp -dsimp -implicitDefEqProofs (disch:=first|omega|assumption|(simp only[bd,Nat.reduceAdd];try omega)) only[go_sem,simprocAttr,-List.reduceReplicate,T,k,U.ae (M _ _ n4),l3];refine cm (λr o=> ∃b:Nat,b<=a.kids.length/\cx p c (k5++(a.kids.take b).flatMap dW) o/\r 6= .ptr c 0/\r 50=C/\r 51= .v (.int .i64 a.kids.length)/\r 52= .v (.int .i64 b))
   (λr _=>match r 52 with| .v (.int _ k2)=>a.kids.length - k2.toNat| _=>0) ⟨0,aaU,by simpa using n4,?_⟩ ?_
  .simp -dsimp -implicitDefEqProofs (disch:=first|omega|assumption|(simp only[bd,Nat.reduceAdd];try omega)) only[go_sem,simprocAttr,-List.reduceReplicate,T,k]
  clear T k l m n;rintro r v ⟨b,a18,x,k,G,L,P⟩;by_cases w:(b:Int)<a.kids.length
  .have W:a.kids[b]? =some a.kids[b]:=a6y aaU;have N:a.kids.take (b+1)=a.kids.take b++ [a.kids[b]]:=by rw[a7C,W];rfl
   have V:=l5 _ (a6Z (n:=b) aaU);generalize a.kids[b]'aaU=d at W N V;obtain⟨y,k3,Y,_,e,f,g,rfl⟩:=E.kids.get W;obtain⟨a27,k4,O⟩:=a13.get b _ k3;have Z:=aP (N:=e) (e5:=f) (h6:=g) Y;have a56:(R.agg (ab d e f g)).cells=ab d e f g:=rfl;rw[a56]at O;have A:=O.ld v (l9 _ _ x) true 37 aaU (by rw[Z.len];omega);rw[show aL true 37 (ab d e f g)= .agg (ab d e f g) by rw[aL,if_pos rfl,Z.t37]]at A;have k6:=Z.len;generalize ab d e f g=i at*;obtain⟨b00,b01,a3,a4,a5,di,a57,a61⟩:=Z;have b02:=n5 b;refine aj (c9 @k @G @L @P @w @k4 @A) ?_;refine aN λj9 a62=> ?_;obtain⟨a63,a65,Q⟩:=x.new (ob:= .cells i) a62;have a68:(p.set j9 (.cells i)) j9=some (.cells i):=U.ai _ _ _;have b03:=k6;have b04:=V.mv;have cf:=V.mw;have b05:=V.live;have b06:=V.size;have b07:=V.aT;have b08:=V.aS;have b09:=V.key;have a69: ∀k7:List R,k7.length=37->putAt k7 0 i=i:=λk7 a71=>by rw[putAt];simp[a71,k6]
   refine aj (cd @k @G @L @P @K @a69 @k6 @U.set_set @a6A.{0} @a8s.{0}) ?_;have a73:d.live=(d.live.toNat):=aaU;have a74:d.size=(d.size.toNat):=aaU;have I: ∀aV o,cx (p.set j9 (.cells i)) c aV o->o j9=some (.cells i):=λaV o u=>u.get a63 a68;rw[a3];have k8:(k5++(a.kids.take b).flatMap dW).length<=1700:=by grind
   obtain⟨b10,a81⟩: ∃a83,a83=k5++(a.kids.take b).flatMap dW:=⟨_,rfl⟩;rw[<-a81]at Q k8;refine ah (Dk _ _ c _ d.sum Y Q aaU) ?_;intro _ a43 B;simp -dsimp -implicitDefEqProofs (disch:=first|omega|assumption|(simp only[bd,Nat.reduceAdd];try omega)) only[go_sem,simprocAttr,-List.reduceReplicate,k,G,L,P,U.ae (I _ _ B),di];rw[a73];refine ah (sH _ _ c _ d.live.toNat aaU B (by grind)) ?_;intro _ a47 X;simp -dsimp -implicitDefEqProofs (disch:=first|omega|assumption|(simp only[bd,Nat.reduceAdd];try omega)) only[go_sem,simprocAttr,-List.reduceReplicate,k,G,L,P,U.ae (I _ _ X),a57];rw[a74];have cl:=ky d.live.toNat;have k0:=ky d.size.toNat;refine ah (sH _ _ c _ d.size.toNat aaU X (by grind)) ?_;intro _ b11 H;simp -dsimp -implicitDefEqProofs (disch:=first|omega|assumption|(simp only[bd,Nat.reduceAdd];try omega)) only[go_sem,simprocAttr,-List.reduceReplicate,k,G,L,P,U.ae (I _ _ H),a4];have n9:=λh=>xR (a:=h);have b12:=n9 d.aT;have b13:=n9 d.aS;refine ah (sI _ _ c _ d.aT e aaU H (by grind)) ?_;intro _ b14 a00;simp -dsimp -implicitDefEqProofs (disch:=first|omega|assumption|(simp only[bd,Nat.reduceAdd];try omega)) only[go_sem,simprocAttr,-List.reduceReplicate,k,G,L,P,U.ae (I _ _ a00),a5];refine ah (sI _ _ c _ d.aS f aaU a00 (by grind)) ?_;intro _ b15 a01;simp -dsimp -implicitDefEqProofs (disch:=first|omega|assumption|(simp only[bd,Nat.reduceAdd];try omega)) only[go_sem,simprocAttr,-List.reduceReplicate,k,G,L,P,U.ae (I _ _ a01),a61];refine ah (sI _ _ c _ d.key g aaU a01 (by grind)) ?_;intro _ b16 a84;refine aj (aM @k @G @L @P) ?_;refine⟨⟨b+1,aaU,?_,aaV⟩,aaU⟩;have H:=a84.base (U.af (U.a6) a65);grind[List.append_assoc,dW]
  .obtain rfl:b=a.kids.length:=aaU;rw[a6V]at x;have k8:=n5 a.kids.length;rw[a6V]at k8;refine aj (bh @k @G @L @P @w) ?_;refine ah (Dj _ v c _ x (by grind)) ?_;rintro _ a02 ⟨a86,a03,rfl⟩;refine aj @k ?_;refine ah (Dx _ a02 c _ (x.mono a03.sub)) ?_;rintro _ a02 ⟨rfl,rfl⟩;refine bT ?_;refine⟨_,U.a6,U.au t (U.au (x.sub l7) a03.sub),a86,?_⟩;rw[a14]
end Go.Proofs.YtcfpcblgmmeioaaGreat
set_option maxHeartbeats 1000000
namespace Go.Proofs.YtcfpcblgmmeioaaGreat
open Go Go.bD
theorem ch:(List.replicate 32 (R.v (.int .u8 0))++ [R.J [] .nil,.J [] .nil]++ [R.v (.int .i64 0),.v (.int .i64 0)]++ [R.J [] .nil])=ab az .nil .nil .nil:=by rw[show List.replicate 32 (R.v (.int .u8 0))=(List.replicate 32 (0)).map ak by rw[List.map_replicate];rfl];simp only[a6N];rfl
variable{w j3:aq}{A:List UInt8}{N e5 h6:Own}
theorem uS (a:w.sum.length=32) (b:A.length=32):putAt (ab w N e5 h6) 0 (A.map ak)=ab {w with sum:=A} N e5 h6:=by grind[ak,ab,putAt,List.length_map,List.drop_append,List.drop_eq_nil_of_le]
variable{n b6:R}{g B c0:List R}
theorem uT {b c d:R} (r:g.length=32):(∀a x,putAt (g++ [n,b6,b,c,d]) 32 [a,x]=g++ [a,x,b,c,d])/\(∀a,putAt (g++ [n,b6,b,c,d]) 34 [a]=g++ [n,b6,a,c,d])/\
  (∀a,putAt (g++ [n,b6,b,c,d]) 35 [a]=g++ [n,b6,b,a,d])/\ ∀a,putAt (g++ [n,b6,b,c,d]) 36 [a]=g++ [n,b6,b,c,a]:=by
 have o: ∀h (k),(g++k).take (32+h)=g++k.take h:=λh k=>by rw[<-r,a9n]
 have p: ∀h (k),(g++k).drop (32+h)=k.drop h:=λh k=>by rw[<-r,a9o]
 have y:=o 0;have z:=o 2;have C:=o 3;have D:=o 4;have E:=p 2;have F:=p 3;have G:=p 4;simp_all [Nat.reduceAdd,putAt]
variable{b1:Int}
theorem sR (a:w.sum.length=32):putAt (ab w N e5 h6) 34 [.v (.int .i64 b1)]=ab {w with live:=b1} N e5 h6:=(uT (by simp[a])).2.1 _
theorem sS (a:w.sum.length=32):putAt (ab w N e5 h6) 35 [.v (.int .i64 b1)]=ab {w with size:=b1} N e5 h6:=(uT (by simp[a])).2.2.1 _
variable{q b8:List Int}
theorem sT {a:Own} (b:w.sum.length=32):putAt (ab w N e5 a) 36 [.J (ad q) h6]=ab {w with key:=q} N e5 h6:=(uT (by simp[b])).2.2.2 _
theorem y7 {a b:Own} (c:w.sum.length=32):putAt (ab w a b N) 32 [.J (ad q) e5,.J (ad b8) h6]=ab {w with aT:=q,aS:=b8} e5 h6 N:=(uT (by simp[c])).1 _ _
theorem cy {a b c:Own} (d:j3.sum.length=32) (h:w.sum.length=32):putAt (ab j3 a b c) 0 (ab w N e5 h6)=ab w N e5 h6:=by have o:=(aP (N:=a) (e5:=b) (h6:=c) d).len;have k:=(aP (N:=N) (e5:=e5) (h6:=h6) h).len;rw[putAt,a8w,a6T,k,a7n aaU,a7E]
theorem bj:az.sum.length=32:=by rfl
theorem sU:(gq q).1.length<=8/\(gq q).2.length<=8:=by grind[gq]
variable{e i v M b9 j2:Nat}{b4:bY}
theorem y8 (b:e<=8) (c:dQ e b4=true) (k: ∀a∈b4.kids,a.sum.length=32):(cG b4).length<=2000:=by obtain⟨o,p,r⟩:=kz c;have x:=uR b c;have z:=r9 λd y=>y5 (a:=d) (by rw[o d y];exact b);have C:=r9 λa h=>sQ (k a h) (x a h);have a3:b4.rows.length*100<=4*100:=a6O _ p;have a4:b4.kids.length*300<=4*300:=a6O _ r;unfold cG;grind
theorem aB.all (b:aB bB b4.kids g): ∀a∈b4.kids,a.sum.length=32/\a.cv:=by intro a c;obtain⟨h,d,rfl⟩:=a7l c;obtain⟨k,_,o,p,_⟩:=b.get (a6y d);trivial
abbrev fL (b:List UInt8) (a:gM):aq:=⟨b,a.aR.1,a.aR.2,a.live,a.size,[]⟩
theorem Zz (z:A.length=32): ∃p:List Int->List Int->Int->Int->List Int->Own->Own->Own->List R,(∀(x:aq) a b c,x.sum=A->ab x a b c=p x.aT x.aS x.live x.size x.key a b c)/\putAt (ab az .nil .nil .nil) 0 (A.map ak)=p [] [] 0 0 [] .nil .nil .nil/\
  ∀d h k cf o a b c,(p d h k cf o a b c).length=37/\(p d h k cf o a b c).take 37=p d h k cf o a b c/\((p d h k cf o a b c).drop 32).take 2= [.J (ad d) a,.J (ad h) b]/\aL false 1 ((p d h k cf o a b c).drop 34)= .v (.int .i64 k)/\aL false 1 ((p d h k cf o a b c).drop 35)= .v (.int .i64 cf)/\putAt (ab az .nil .nil .nil) 0 (p d h k cf o a b c)=p d h k cf o a b c/\
   (∀r,putAt (p d h k cf o a b c) 34 [.v (.int .i64 r)]=p d h r cf o a b c)/\(∀r,putAt (p d h k cf o a b c) 35 [.v (.int .i64 r)]=p d h k r o a b c)/\(∀r y,putAt (p d h k cf o a b c) 36 [.J (ad r) y]=p d h k cf r a b y)/\ ∀r C y D,putAt (p d h k cf o a b c) 32 [.J (ad r) y,.J (ad C) D]=p r C k cf o y D c:=by
 refine⟨λd h k cf o a b c=>ab ⟨A,d,h,k,cf,o⟩ a b c,λx _ _ _ E=>by subst E;rfl,uS bj z,λd h k cf o a b c=> ?_⟩;have F:=(aP (w:=⟨A,d,h,k,cf,o⟩) (N:=a) (e5:=b) (h6:=c) z).all;grind[cy,bj,sR,sS,sT,y7]
theorem DT (b:bY) (n9 a00:List R) (X Y:R) (w:Nat) (a34:1<=w) (l3:w<=8) (O:U) (x:fK O b X Y n9 a00):
  AC Tryz.prog 155 [gO b X Y,.v (.int .i64 (w:Int))] O λc F=>O.sub F/\match fI w b with
   |none=>c= .aJ [.agg (ab az .nil .nil .nil),.v (.int .i64 1)]
   |some d=> ∃k o l4,c= .aJ [.agg (ab d k o l4),.v (.int .i64 0)]:=by
 have a84:=x.hd;have a86:=x.sP;have a88:=x.kB;have a89:=x.hZ;have a01:=ox (cG b);obtain⟨k5,a90,a92,a36⟩:=Zz a01;have A:=λa38 k6 Z cf a42 k o l4=>(a36 a38 k6 Z cf a42 k o l4).1;have a94:(bz (fZ (cG b))).cells=(fZ (cG b)).map ak:=rfl;have a95:((fZ (cG b)).map ak).length=32:=by simp[a01]
 have a96:=ch;have a97:=(aP (N:= .nil) (e5:= .nil) (h6:= .nil) bj).all;have a02:=λd y z E B=>cy (a:= .nil) (b:= .nil) (c:= .nil) (w:=d) (N:=y) (e5:=z) (h6:=E) bj B;have a98:=a02 az .nil .nil .nil bj;generalize a99:ab az .nil .nil .nil=l5 at*;obtain⟨a03,L⟩: ∃a03,fI w b=a03:=⟨_,rfl⟩;rw[L];unfold fI fm at L;have a43:= @U.set_set;have b00:= @sd;refine aK hm P8 ?_;refine bp λa04 a47=> ?_;refine cZ λj9 a48 _ _=> ?_;generalize C:(O.set a04 _).set j9 _=l6;have a05:O.sub l6:=by subst C;exact aO
 have c2:l6 a04=some (.cells [.v (.int .u8 (b.kind.toNat)),X,Y]):=by subst C;exact aO
 have aM:l6 j9=some (.cells l5):=by subst C;exact aO
 clear C a47;refine cl (y6 b n9 a00 X Y w a34 l3 _ (x.mono a05)) ?_;rintro c k0 ⟨l7,k1⟩;replace c2:=l7 _ _ c2;replace aM:=l7 _ _ aM;have H:=U.au a05 l7;have k2:=U.ae c2;have l8:=U.aI aM;have b01: ∀F i,k0.sub F->O.sub (F.set j9 i):=λF i B=>U.af (U.au H B) a48;unfold sK at k1;cases S:dQ w b with
 |false=>rw[S]at k1 L;rw[if_neg aaV]at L;obtain rfl:=k1;subst L;exact aO
 |true=>
  rw[S]at k1 L;rw[if_pos rfl]at L;obtain⟨a52,rfl⟩:=k1;obtain⟨a06,b02,b03⟩:=kz S;have a07:=uR l3 S;have a56:=x.kids.all;have b04:=y8 l3 S λd a57=>(a56 d a57).1;obtain⟨h,j⟩: ∃h:Nat->gM,h=λa=>(b.rows.take a).foldl dR ⟨0,b.rows.length,([],[])⟩:=⟨_,rfl⟩;obtain⟨T,I⟩: ∃T:Nat->gM,T=λa=>(b.kids.take a).foldl ev (h b.rows.length):=⟨_,rfl⟩;have a08:h 0=⟨0,b.rows.length,([],[])⟩:=by subst j;rfl
  have a09:T 0=h b.rows.length:=by subst I;rfl
  have a61: ∀a c,b.rows[a]? =some c->h (a+1)=dR (h a) c:=λa c B=>by subst j;simp[a7C,B]
  have a10: ∀a d,b.kids[a]? =some d->T (a+1)=ev (T a) d:=λa d B=>by subst I;simp[a7C,B]
  have a11:eD b=T b.kids.length:=by subst I;subst j;simp[eD]
  rw[a11]at L;clear j I a11;refine aa ?_;refine np (DJ (cG b) a52 _ aaU) ?_;refine bp λl Q=> ?_;have b05:=U.gZ Q c2;have b06:=U.gZ Q aM;refine aa ?_;refine cg [2,4,8,30,31] (λa:Nat=> [(32,.v (.int .i64 (a)))]) (λa F=>a<=b.rows.length/\k0.sub F/\(0<=(h a).live/\(h a).live<=a/\(h a).size=b.rows.length/\(h a).aR.1.length<=8/\(h a).aR.2.length<=8)/\ ∃k o,F l=some (.cells (k5 (h a).aR.1 (h a).aR.2 (h a).live b.rows.length [] k o .nil))) (λa=>b.rows.length - a) 0 ⟨⟨aaU,U.af (U.af U.a6 Q) Q,by simp[a08],.nil,.nil,by rw[a08];exact U.ai _ _ _⟩,aO⟩ ?_;rintro a D ⟨k6,p,⟨a13,a14,l9,k7,k8⟩,k,o,bt⟩ a62;have a15:=A (h a).aR.1 (h a).aR.2 (h a).live b.rows.length [] k o .nil;have k9:=A (h a).aR.1 (h a).aR.2 ((h a).live+1) b.rows.length [] k o .nil;have m:=U.ae bt;have V:=U.aI bt;have k2:=rd p c2;refine aa ?_;refine aH (λP=> ?_) λP=> ?_
  .have K:=a6y (show a<b.rows.length by omega);have j:=a61 a _ K;have n0:=a06 _ (a6Z (n:=a) aaU);generalize b.rows[a]'aaU=c at K j n0;obtain⟨_,M,n,rfl⟩:=x.rows.get K;obtain⟨q,W,G⟩:=(x.mc.mono (U.au H p)).get a _ M;have e:cY true 2 D q=some (.agg [.J (ad c.1) n,.v (.bool c.2)]):=G.ld D U.a6 true 2 aaU (by simp[R.cells]);obtain⟨c,Z⟩:=c;refine aa ?_;refine bp λn1 a16=> ?_;have a63:=U.gZ a16 bt;obtain⟨r,s⟩: ∃r,D.set n1 (.cells [.J (ad c) n,.v (.bool Z)])=r:=⟨_,rfl⟩;have f:D.sub r:=by rw[<-s];exact U.af U.a6 a16
   have cd:r n1=some (.cells [.J (ad c) n,.v (.bool Z)]):=by rw[<-s,U.ai]
   rw[a43,s];have m:=rd f bt;have V:=U.aI (f _ _ bt);have a65:=U.ae cd;clear s e W G k2;refine aH (λP=> ?_) λP=> ?_<;>subst P
   .generalize C:r.set l _=t;have bt:t l=some (.cells (k5 (h a).aR.1 (h a).aR.2 ((h a).live+1) b.rows.length [] k o .nil)):=by subst C;exact U.ai _ _ _
    have cd:t n1=some (.cells [.J (ad c) n,.v (.bool true)]):=by subst C;rw[U.an _ _ a63.symm];exact cd
    have n2:k0.sub t:=by subst C;exact U.af (U.au p f) Q
    clear C;refine cl (Zm t c n (by dsimp only at n0;omega)) ?_;rintro _ a68 ⟨l0,y,z,rfl⟩;have m:=rd l0 bt;have a65:=rd l0 cd;have a18:=sU (q:=c);refine cl (DO a68 (h a).aR.1 (h a).aR.2 (gq c).1 (gq c).2 k o y z aaU aaU aaU aaU) ?_;rintro _ a69 ⟨k3,rfl⟩;have V:=U.aI (k3 _ _ (l0 _ _ bt));have n3:=oA (h a).aR (gq c) 8 k7 k8 a18.1 a18.2;refine aa ?_;refine⟨a+1,⟨aaU,U.au n2 (U.au l0 k3),?_,.any,.any,?_⟩,rfl,aaU⟩<;>rw[j,dR,if_pos rfl];grind
   .refine⟨a+1,⟨aaU,U.au p f,?_,k,o,?_⟩,rfl,aaU⟩<;>rw[j,dR,if_neg aaV];omega
    .exact f _ _ bt
  obtain rfl:a=b.rows.length:=aaU;refine cg [2,4,8,51,52] (λa:Nat=> [(53,.v (.int .i64 (a)))]) (λa F=>a<=b.kids.length/\k0.sub F/\(0<=(T a).live/\(T a).live<=4+a*1048576/\0<=(T a).size/\(T a).size<=4+a*1048576/\(T a).aR.1.length<=8/\(T a).aR.2.length<=8)/\ ∃k o,F l=some (.cells (k5 (T a).aR.1 (T a).aR.2 (T a).live (T a).size [] k o .nil))) (λa=>b.kids.length - a) 0 ⟨⟨aaU,p,by grind,k,o,by rw[a09,l9];exact bt⟩,aO⟩ ?_;clear a15 k9 bt m V k2 p P a13 a14 l9 k7 k8 k6;rintro a D ⟨k6,p,⟨a13,a14,l9,b07,k7,k8⟩,k,o,bt⟩ a62;have a15:=A (T a).aR.1 (T a).aR.2 (T a).live (T a).size [] k o .nil;have m:=U.ae bt;have V:=U.aI bt;have k2:=rd p c2;have l8:=U.aI (p _ _ aM);refine aa ?_;refine aH (λP=> ?_) λP=> ?_
  .have K:=a6y (show a<b.kids.length by omega);have I:=a10 a _ K;have u:=a07 _ (a6Z (n:=a) aaU);generalize b.kids[a]'aaU=d at K I u;obtain⟨_,M,l1,a71,y,z,E,rfl⟩:=x.kids.get K;obtain⟨q,W,G⟩:=(x.gJ.mono (U.au H p)).get a _ M;have N:=aP (N:=y) (e5:=z) (h6:=E) l1;change mx D q (ab d y z E)at G;have e:=G.ld D U.a6 true 37 aaU (by rw[N.len];omega);rw[show aL true 37 (ab d y z E)= .agg (ab d y z E) by rw[aL,if_pos rfl,N.t37]]at e;have N:=N.all;have b08:=a02 d y z E l1;generalize ab d y z E=a19 at*;have Z:=u.mv;have cf:=u.mw;have b09:=u.live;have b10:=u.size;have a73:=u.aT;have a74:=u.aS;refine aa ?_;have k9:=A (T a).aR.1 (T a).aR.2 ((T a).live+d.live) (T a).size [] k o .nil;have b11:=A (T a).aR.1 (T a).aR.2 ((T a).live+d.live) ((T a).size+d.size) [] k o .nil;refine bp λa27 a29=> ?_;have b12:=U.gZ a29 bt;obtain⟨r,s⟩: ∃r,D.set a27 (.cells a19)=r:=⟨_,rfl⟩;have f:D.sub r:=by rw[<-s];exact U.af U.a6 a29
   have a81:r.read a27=some a19:=U.ae (by rw[<-s,U.ai]);have m:=rd f bt;have V:=U.aI (f _ _ bt);clear e W G k2;refine aa ?_;generalize C:r.set l _=t;have bt:t l=some (.cells (k5 (T a).aR.1 (T a).aR.2 ((T a).live+d.live) ((T a).size+d.size) [] k o .nil)):=by subst C;exact U.ai _ _ _
   have n2:k0.sub t:=by subst C;exact U.af (U.au p f) Q
   clear C s m V a81;refine cl (DO t (T a).aR.1 (T a).aR.2 d.aT d.aS k o y z aaU aaU aaU aaU) ?_;rintro _ a69 ⟨k3,rfl⟩;have V:=U.aI (k3 _ _ bt);have n3:=oA (T a).aR (d.aT,d.aS) 8 k7 k8 a73 a74;refine aa ?_;refine⟨a+1,⟨aaU,U.au n2 k3,?_,.any,.any,?_⟩,rfl,aaU⟩<;>rw[I,ev];exact⟨by dsimp only;omega,by dsimp only;omega,by dsimp only;omega,by dsimp only;omega,n3.1,n3.2⟩
  obtain rfl:a=b.kids.length:=aaU;clear a10 a09;generalize T b.kids.length=v at*;refine aH (λP=> ?_) λP=> ?_;grind;rw[if_neg P]at L;subst L;by_cases g2:b.kind=2
  .have bp:(b.kind.toNat:Int)=2:=by rw[g2];rfl
   obtain⟨c,l2,n4⟩: ∃c l2,b.rows=c::l2:=a8F (by rintro k4;unfold dQ at S;simp[g2,k4]at S);have n0:=a06 c (by simp[n4]);obtain⟨_,M,n,rfl⟩:=x.rows.get (i:=0) (by rw[n4];rfl);obtain⟨q,W,G⟩:=(x.mc.mono (U.au H p)).get 0 _ M;obtain⟨a30,a83,e⟩:=G.lb D U.a6 0 false 1 aaU (by simp[R.cells]);have W:cC 2 X (.v (.int .i64 0))=some q:=W;have e:cY false 1 D a30=some (.J (ad c.1) n):=e;have k9:=A v.aR.1 v.aR.2 v.live v.size c.1 k o .any;refine iH ?_;refine cl (sO c.1 n _ aaU) ?_;rintro _ r ⟨g,rfl⟩;have m:=rd g bt;have V:=U.aI (g _ _ bt);have l8: ∀i,eg (r.set l i) j9=some l5:=λi=>U.aI (by rw[U.an _ _ aaX];exact g _ _ (p _ _ aM));refine aa ?_;exact⟨U.au H (U.au p g),k,o,.any,by simp[keyOf,g2,n4]⟩
  have bp: ¬(b.kind.toNat:Int)=2:=λk4=>g2 (a7v.1 (by grind));refine iH ?_;by_cases g3:b.kind=3
  .have ha:(b.kind.toNat:Int)=3:=by rw[g3];rfl
   obtain⟨d,b13,n5⟩: ∃c l2,b.kids=c::l2:=a8F (by rintro k4;unfold dQ at S;simp[g3,k4]at S);have u:=(a07 d (by simp[n5])).key;obtain⟨_,M,l1,a71,y,z,E,rfl⟩:=x.kids.get (i:=0) (by rw[n5];rfl);obtain⟨q,W,G⟩:=(x.gJ.mono (U.au H p)).get 0 _ M;have N:=aP (N:=y) (e5:=z) (h6:=E) l1;change mx D q (ab d y z E)at G;obtain⟨a30,a83,e⟩:=G.lb D U.a6 36 false 1 aaU (by rw[N.len];omega);have W:cC 37 Y (.v (.int .i64 0))=some q:=W;rw[N.all.2.2.2.2.2.2.2.2]at e;have k9:=A v.aR.1 v.aR.2 v.live v.size d.key k o .any;refine iH ?_;refine cl (sO d.key E _ aaU) ?_;rintro _ r ⟨g,rfl⟩;have m:=rd g bt;have V:=U.aI (g _ _ bt);have l8: ∀i,eg (r.set l i) j9=some l5:=λi=>U.aI (by rw[U.an _ _ aaX];exact g _ _ (p _ _ aM));refine aa ?_;exact⟨U.au H (U.au p g),k,o,.any,by simp[keyOf,g3,n5]⟩
  have ha: ¬(b.kind.toNat:Int)=3:=λk4=>g3 (a7v.1 (by grind));refine iH ?_;grind[keyOf]
theorem DU {h k d:R} (o:g.length=32):(∀c,putAt (g++ [h,k,n,b6,d]) 32 [c]=g++ [c,k,n,b6,d])/\ ∀c,putAt (g++ [h,k,n,b6,d]) 33 [c]=g++ [h,c,n,b6,d]:=by
 have p: ∀a (b),(g++b).take (32+a)=g++b.take a:=λa b=>by rw[<-o,a9n]
 have r: ∀a (b),(g++b).drop (32+a)=b.drop a:=λa b=>by rw[<-o,a9o]
 have x:=p 0;have y:=p 1;have z:=r 1;have C:=r 2;simp_all [Nat.reduceAdd,putAt]
def DV {a:Own} (b:w.sum.length=32):putAt (ab w a N e5) 32 [.J (ad q) h6]=ab {w with aT:=q} h6 N e5:=(DU (by simp[b])).1 _
def DW {a:Own} (b:w.sum.length=32):putAt (ab w N a e5) 33 [.J (ad q) h6]=ab {w with aS:=q} N h6 e5:=(DU (by simp[b])).2 _
variable{f s e0:U}{X j8:bs}
def c6.put {b:Rd} (a:bs) (c:c6 (f.set e X) i b s) (d:e≠i):c6 (f.set e a) i b (s.set e a):=by have:=c.other (ob:=a) d;rwa[U.set_set]at this
theorem ZA (L H:U) (x:Nat) (r:Nat) (a04:r<=8) (C:Rd) (l0:L x=none) (P:c6 L x C H):
  AC Tryz.prog 242 [.ptr x 0,.v (.int .i64 (r:Int))] H λD V=>c6 L x (hC r C).2 V/\(hC r C).1.sum.length=32/\(hC r C).1.cv/\ ∃b h o,D= .agg (ab (hC r C).1 b h o):=by
 have fv:=aP (N:= .nil) (e5:= .nil) (h6:= .nil) bj;have n:=fv.len;have a05:=fv.t37;refine bc hm RF aaV ?_;have q: ∀I,(R.agg I).cells=I:=λ_=>rfl;have K: ∀c:Int,(R.v (.int .i64 c)).cells= [.v (.int .i64 c)]:=λ_=>rfl;have s: ∀(c) (M),(R.J (ad c) M).cells= [.J (ad c) M]:=λ_ _=>rfl;refine aj @ch ?_;refine aN λE l1=> ?_;obtain⟨t,N,P⟩:=P.new (ob:= .cells (ab az .nil .nil .nil)) l1;have l2:L.sub (L.set E (.cells (ab az .nil .nil .nil))):=U.af U.a6 N;have O:(L.set E (.cells (ab az .nil .nil .nil))) x=none:=by rw[U.an _ _ (a6I t)];exact l0
 have u:(L.set E (.cells (ab az .nil .nil .nil))) E=some (.cells (ab az .nil .nil .nil)):=U.ai _ _ _;obtain⟨l,l3⟩: ∃l:U,l=L.set E (.cells (ab az .nil .nil .nil)):=⟨_,rfl⟩;rw[<-l3]at P l2 O u;refine bT ?_;refine ah (Dt _ _ x C P) ?_;rintro D a06 ⟨Q,rfl⟩;unfold hC;have z:=Ds C;generalize nv C=p at*;obtain⟨a,X⟩:=p;simp only at Q z|-;have Y:(bz a).cells=a.map ak:=rfl;have Z:(a.map ak).length=32:=by simp[z]
 have j9:putAt (ab az .nil .nil .nil) 0 (a.map ak)=ab ⟨a,[],[],0,0,[]⟩ .nil .nil .nil:=uS bj z;have k0: ∀(p) (b h o),p.sum.length=32->putAt (ab az .nil .nil .nil) 0 (ab p b h o)=ab p b h o:=λp b h o l4=>cy bj l4;have cl: ∀(k y) (v w) (F) (b h o),r8 ⟨a,k,y,v,w,F⟩ b h o (ab ⟨a,k,y,v,w,F⟩ b h o):=λk y v w F b h o=>aP z;have A:=(cl [] [] 0 0 [] .nil .nil .nil).len;have k1:=k0 ⟨a,[],[],0,0,[]⟩ .nil .nil .nil z;refine aj (bt @q @Y @Z @ch @j9 @n @A @k1) ?_;refine aN λW l5=> ?_;obtain⟨S,k2,l6⟩:=Q.new (ob:= .cells (ab ⟨a,[],[],0,0,[]⟩ .nil .nil .nil)) l5;have m:E≠W:=by rintro rfl;rw[u]at k2;cases k2
 have B: ∀e,(l.set W e) x=none:=λe=>by rw[U.an _ _ (a6I S)];exact O
 have aa: ∀ {e C V},c6 (l.set W e) x C V->V W=some e/\V E=some (.cells (ab az .nil .nil .nil)):=λP=>⟨P.get S (U.ai _ _ _),P.get t (by rw[U.an _ _ m];exact u)⟩;refine aj (cN @q @Y @Z @ch @j9 @n @A @k1 @U.set_set) ?_;refine ah (sJ _ _ x 1048576 aaU _ l6) ?_;rintro D a07 ⟨f,rfl⟩;have l7:=xT 1048576 X;generalize fB 1048576 X=p at*;obtain⟨d,k3⟩:=p;simp only at f l7|-;have G:=(aa f).1;have c2:=(cl [] [] d 0 [] .nil .nil .nil).len;have l8:putAt (ab ⟨a,[],[],0,0,[]⟩ .nil .nil .nil) 34 [.v (.int .i64 (d))]=ab ⟨a,[],[],d,0,[]⟩ .nil .nil .nil:=sR z;replace f:=f.put (.cells (ab ⟨a,[],[],d,0,[]⟩ .nil .nil .nil)) S;refine aj (aM @K (U.aI G) @A @l8) ?_;refine ah (sJ _ _ x 1048576 aaU _ f) ?_;rintro D a08 ⟨g,rfl⟩;have l9:=xT 1048576 k3;generalize fB 1048576 k3=p at*;obtain⟨c,k4⟩:=p;simp only at g l9|-;replace G:=(aa g).1;have aE:=(cl [] [] d c [] .nil .nil .nil).len;have n0:putAt (ab ⟨a,[],[],d,0,[]⟩ .nil .nil .nil) 35 [.v (.int .i64 (c))]=ab ⟨a,[],[],d,c,[]⟩ .nil .nil .nil:=sS z;replace g:=g.put (.cells (ab ⟨a,[],[],d,c,[]⟩ .nil .nil .nil)) S;refine aj (aM @K (U.aI G) @c2 @n0) ?_;refine ah (pI _ _ x r aaU _ (B _) g) ?_;rintro D a09 ⟨i,b,rfl⟩;have n1:=xU r k4;generalize ie r k4=p at*;obtain⟨k,k5⟩:=p;simp only at i n1|-;replace G:=(aa i).1;have aM:=(cl k [] d c [] b .nil .nil).len;have n2:putAt (ab ⟨a,[],[],d,c,[]⟩ .nil .nil .nil) 32 [.J (ad k) b]=ab ⟨a,k,[],d,c,[]⟩ b .nil .nil:=DV z;replace i:=i.put (.cells (ab ⟨a,k,[],d,c,[]⟩ b .nil .nil)) S;simp -dsimp -implicitDefEqProofs (disch:=first|omega|assumption|(simp only[bd,Nat.reduceAdd];try omega)) only[go_sem,simprocAttr,-List.reduceReplicate,s,U.aI G,aE,n2];refine ah (pI _ _ x r aaU _ (B _) i) ?_;rintro D a10 ⟨j,h,rfl⟩;have n3:=xU r k5;generalize ie r k5=p at*;obtain⟨y,k6⟩:=p;simp only at j n3|-;replace G:=(aa j).1;have bh:=(cl k y d c [] b h .nil).len;have n4:putAt (ab ⟨a,k,[],d,c,[]⟩ b .nil .nil) 33 [.J (ad y) h]=ab ⟨a,k,y,d,c,[]⟩ b h .nil:=DW z;replace j:=j.put (.cells (ab ⟨a,k,y,d,c,[]⟩ b h .nil)) S;simp -dsimp -implicitDefEqProofs (disch:=first|omega|assumption|(simp only[bd,Nat.reduceAdd];try omega)) only[go_sem,simprocAttr,-List.reduceReplicate,s,U.aI G,aM,n4];refine ah (pI _ _ x r aaU _ (B _) j) ?_;rintro D n5 ⟨T,o,rfl⟩;have n9:=xU r k6;generalize ie r k6=p at*;obtain⟨F,a11⟩:=p;simp only at T n9|-;replace G:=(aa T).1;have k7:=cl k y d c F b h o;have bx:=k7.len;have a00:putAt (ab ⟨a,k,y,d,c,[]⟩ b h .nil) 36 [.J (ad F) o]=ab ⟨a,k,y,d,c,F⟩ b h o:=sT z;replace T:=T.put (.cells (ab ⟨a,k,y,d,c,F⟩ b h o)) S;have k8:=(aa T).2;have a13:=(aa T).1;have a01:=a6I m;have a02:=k0 ⟨a,k,y,d,c,F⟩ b h o z;have a03:n5 E=some (.cells (ab az .nil .nil .nil)):=by rw[U.an _ _ m]at k8;exact k8
 refine aj (gl @s (U.aI G) @bh @a00 @U.ai @U.an @m @a01 (U.aI a03) k7.t37 @n @bx @a02 @q) ?_;refine⟨_,U.a6,?_,z,⟨by simp only;omega,by simp only;omega,by simp only;omega⟩,b,h,o,rfl⟩;refine(T.other t).base ?_;intro D a14 k9;have a15:D≠E:=by rintro rfl;rw[N]at k9;cases k9
 have a16:D≠W:=by rintro rfl;simp_all [U.an]
 simp_all [U.an]
def nC (a:g.length=e*i):bV (f.set v (.cells g)) i (.ao v e e i)=some (e,g):=by simp[bV,U.ae (U.ai _ _ _),<-a]
def av.rs {a:Rd} (b:av (f.set e (ib a N)) s i g n):c6 f e a s:=⟨N,b.1⟩
def av.sV {p h:Rd} (r:av (f.set e (ib p N)) s i g n) (x:f e=none) (y:c6 (s.del e) e h e0): ∃c,av (f.set e (ib h c)) e0 i g n:=by
 obtain⟨c,k⟩:=y;obtain⟨z,d⟩:=r;refine⟨c,U.au (U.lp (DB z x)) k,?_⟩;rcases d with d|⟨o,C,D,E,F,a,G,L⟩
 .exact .inl d
 .have b:o≠e:=by rintro rfl;rw[U.ai]at a;cases a
  rw[U.an _ _ b]at a;exact .inr ⟨o,C,D,E,F,by rw[U.an _ _ b];exact a,k _ _ (by rw[U.an _ _ b,U.eH _ b];exact G),L⟩
def gP (h k:U) (a:bY) (o p:R):Prop:= ∃b c d,av h b 2 (flat c) o/\av b k 37 (flat d) p/\aB cT a.rows c/\aB bB a.kids d/\a.rows.length<=100000/\a.kids.length<=100000
def gP.sub {a b:U}{c:bY}{d h:R} (k:gP a b c d h):a.sub b:=by obtain⟨r,x,y,o,p,_⟩:=k;exact U.au o.1 p.1
def gP.L (k:gP s f b4 n b6): ∃a b,fK f b4 n b6 a b:=by obtain⟨x,a,b,o,c,d,h,p,r⟩:=k;exact⟨a,b,d,h,(bJ.dv o aaU rfl (d.cells λ_ _=>cT.cells)).mono c.1,bJ.dv c aaU rfl (h.cells λ_ _=>bB.cells),p,r⟩
theorem gP.base {a b c:U}{d:bY}{h k:R} (o:gP b c d h k) (p:a.sub b):gP a c d h k:=by obtain⟨r,x,y,z,C,D⟩:=o;exact⟨r,x,y,z.base p,C,D⟩
def gP.mono {a b c:U}{d:bY}{h k:R} (o:gP a b d h k) (p:b.sub c):gP a c d h k:=by obtain⟨r,x,y,z,C,D⟩:=o;exact⟨r,x,y,z,C.mono p,D⟩
theorem gP.set {b c:U}{a:Nat}{r ob:bs}{d:bY}{h k:R} (x:gP b c d h k) (o:b a=some r):gP (b.set a ob) (c.set a ob) d h k:=by obtain⟨y,z,C,p,D,E⟩:=x;exact⟨y.set a ob,z,C,jP p o,jP D (p.1 _ _ o),E⟩
variable{b0:Type}
def DX {a:Rd->b0×Rd}{b:Rd}{c:List b0} (d:i<e):fC a (e - i) b c=fC a (e -(i+1)) (a b).2 (c++ [(a b).1]):=by rw[show e - i=(e -(i+1))+1 by omega];rfl
abbrev y9:R:= .agg [.v (.int .u8 0),.J [] .nil,.J [] .nil]
theorem ZB (e:List UInt8) (u:Own) (k:Nat) (a43:1<=k) (n2:k<=8) (n:U) (b22:e.length<=1000000000000):
  AC Tryz.prog 182 [.J (e.map ak) u,.v (.int .i64 (k:Int))] n λq D=>n.sub D/\match ou k e with
   |none=>q= .aJ [y9,.v (.int .i64 21)]
   |some v=> ∃c P,q= .aJ [gO v c P,.v (.int .i64 0)]/\gP n D v c P:=by
 refine nm λb23=> ?_;have a89:u= .nil->e= []:=λa47=>by simp_all
 refine bc hm Q3 aaV ?_;have w: ∀n3,(R.agg n3).cells=n3:=λ_=>rfl;have k0: ∀a d b c P k9:R,putAt [a,d,b] 0 [c,P,k9]= [c,P,k9]:=λ_ _ _ _ _ _=>rfl;have k1: ∀a d b,aL true 3 [a,d,b]= .agg [a,d,b]:=λ_ _ _=>rfl;have a48: ∀a d b:R,aL false 1 ([a,d,b].drop 1)=d:=λ_ _ _=>rfl;have a52: ∀a d b:R,aL false 1 ([a,d,b].drop 2)=b:=λ_ _ _=>rfl;have a90: ∀a d b c:R,putAt [a,d,b] 0 [c]= [c,d,b]:=λ_ _ _ _=>rfl;have N: ∀a d b:R,[a,d,b].length=3:=λ_ _ _=>rfl;have a92: ∀a d c:R,putAt [a,d] 0 [c]= [c,d]:=λ_ _ _=>rfl;have a94: ∀a d c:R,putAt [a,d] 1 [c]= [a,c]:=λ_ _ _=>rfl;have a95: ∀a d:R,[a,d].length=2:=λ_ _=>rfl;have a96: ∀d:Bool,(R.v (.bool d)).cells= [.v (.bool d)]:=λ_=>rfl;have a97: ∀(k9) (a56),(R.J (ad k9) a56).cells= [.J (ad k9) a56]:=λ_ _=>rfl;have a98: ∀a d b c:R,putAt [a,d,b] 1 [c]= [a,c,b]:=λ_ _ _ _=>rfl;have a99: ∀a d b c:R,putAt [a,d,b] 2 [c]= [a,d,c]:=λ_ _ _ _=>rfl;refine bT ?_;refine aN λg a57=> ?_;have a08:n.sub (n.set g (.cells [.v (.int .u8 0),.J [] .nil,.J [] .nil])):=U.af U.a6 a57;have n4:(n.set g (.cells [.v (.int .u8 0),.J [] .nil,.J [] .nil])) g=some (.cells [.v (.int .u8 0),.J [] .nil,.J [] .nil]):=U.ai _ _ _;obtain⟨O,a61⟩: ∃O:U,O=n.set g (.cells [.v (.int .u8 0),.J [] .nil,.J [] .nil]):=⟨_,rfl⟩;rw[<-a61]at a08 n4;have a62: ∀(D) (A),n.sub D->n.sub (D.set g A):=λD A j=>U.af j a57;refine bT ?_;rw[<-a61];refine ah (Dm e u O a89 aaU) ?_;rintro _ b24 ⟨o,n5,rfl,b00⟩;have b25:g≠o:=by rintro rfl;rw[n4]at n5;cases n5
 refine bT ?_;refine ah (pG _ _ o _ b00) ?_;rintro c b26 ⟨a63,rfl⟩;have a65: ∀h:UInt8×Rd,h=dw ⟨e,0⟩->ny k e=(⟨h.1,(fC (iL k) (dw h.2).1.toNat (dw h.2).2 []).1,(fC (hC k) (dw (fC (iL k) (dw h.2).1.toNat (dw h.2).2 []).2).1.toNat (dw (fC (iL k) (dw h.2).1.toNat (dw h.2).2 []).2).2 []).1⟩,
   pH (fC (hC k) (dw (fC (iL k) (dw h.2).1.toNat (dw h.2).2 []).2).1.toNat (dw (fC (iL k) (dw h.2).1.toNat (dw h.2).2 []).2).2 []).2):=by rintro h rfl;rfl
 have a68:=a65 _ rfl;clear a65;unfold ou;rw[a68];clear a68;generalize dw ⟨e,0⟩=h at*;obtain⟨V,b01⟩:=h;simp only at a63|-;refine aj (c2 @k0 @w) ?_;refine aN λG b02=> ?_;obtain⟨B,a09,b03⟩:=a63.new (ob:= .cells [.v (.int .u8 V.toNat),.J [] .nil,.J [] .nil]) b02;have b27:g≠G:=by rintro rfl;rw[n4]at a09;cases a09
 have a10: ∀A,(O.set G A) o=none:=λA=>by rw[U.an _ _ (a6I B)];exact n5
 refine aj (bh @k0 @w @a90 @N @U.set_set) ?_;refine ah (pG _ _ o _ b03) ?_;rintro c b28 ⟨n9,rfl⟩;generalize dw b01=h at*;obtain⟨s,a00⟩:=h;simp only at n9|-;have b04:=s.toNat_lt;have a11:IntKind.i64.wrap (s.toNat)=s.toNat:=wrap_i64 aaU aaU;refine aj @a11 ?_;generalize s.toNat=Q at*;have l0: ∀E b q D h l1 a,av ((O.set G (.cells b)).set o (ib q E)) D h l1 a->D G=some (.cells b)/\D g=some (.cells [.v (.int .u8 0),.J [] .nil,.J [] .nil]):=λE b q D h l1 a j=>⟨j.1 _ _ (by rw[U.an _ _ B,U.ai]),j.1 _ _ (by grind[U.an])⟩;refine cm (λC D=> ∃(L:Nat) (F:Rd) (S:List (List Int×Bool)) (H:List R) (a:R) (E:Own),L<=Q/\fC (iL k) (Q - L) F S=fC (iL k) Q a00 []/\S.length=L/\aB cT S H/\av ((O.set G (.cells [.v (.int .u8 V.toNat),a,.J [] .nil])).set o (ib F E)) D 2 (flat H) a/\
   C 0= .J (e.map ak) u/\C 1= .v (.int .i64 k)/\C 4= .ptr g 0/\C 6= .ptr o 0/\C 7= .ptr G 0/\C 18= .v (.int .i64 Q)/\C 19= .v (.int .i64 L))
  (λC _=>match C 19 with| .v (.int _ v)=>(Q - v).toNat| _=>0) ?_ ?_
 .obtain⟨E,n9⟩:=n9;refine⟨0,a00,[],[],.J [] .nil,E,aaU,rfl,rfl,trivial,av.nil n9,?_⟩;exact kv
 rintro C b05 ⟨L,F,S,H,a,E,b29,W,b06,a01,f,p,r,x,y,z,X,Y⟩;by_cases I:(L:Int)<Q
 .refine aj (bt @p @r @x @y @z @X @Y @I) ?_;refine ah (Z8 _ _ o F (av.rs f).full) ?_;rintro c k2 ⟨a13,rfl⟩;rw[DX aaU]at W;unfold iL at W;obtain⟨b07,l⟩:=av.sV f (a10 _) a13;generalize nx F=h at*;obtain⟨k3,K⟩:=h;simp only at l W|-;have c9:=(l0 _ _ _ _ _ _ _ l).1;refine aj (cd @p @r @x @y @z @X @Y @I (U.ae c9) @a48) ?_;refine ah (pI _ _ o k aaU K (U.iB _ _) (av.rs l).full) ?_;rintro c k4 ⟨l2,a02,rfl⟩;obtain⟨a03,i⟩:=av.sV l (a10 _) l2;generalize ie k K=h at*;obtain⟨k5,a14⟩:=h;simp only at i W|-;have bt:=(l0 _ _ _ _ _ _ _ i).1;refine aj (ml @p @r @x @y @z @X @Y @I (U.ae bt) @a48 @w @a92 @a94 @a95 @a96 @a97) ?_;refine eK (by simp[aW,R.cells]) aaV λb08 a15=> ?_;have a16:=av.mono i (U.af (X:= .cells (flat [R.agg [.J (ad k5) a02,.v (.bool k3)]])) U.a6 a15);have a18:aB cT (S++ [(k5,k3)]) (H++ [R.agg [.J (ad k5) a02,.v (.bool k3)]]):=a01.snoc ⟨_,rfl⟩;have l3:(flat H).length=S.length*2:=by rw[cR (a01.cells λ_ _=>cT.cells),a01.len]
  simp -dsimp -implicitDefEqProofs (disch:=first|omega|assumption|(simp only[bd,Nat.reduceAdd];try omega)) only[go_sem,simprocAttr,-List.reduceReplicate,p,r,x,y,z,X,Y];refine fb a16 aaU (nC rfl) rfl (by rw[l3];simp[flat,R.cells];omega) (by rw[l3];simp[flat,R.cells];omega) λl4 b09 t=> ?_;have a19:flat H++flat [R.agg [.J (ad k5) a02,.v (.bool k3)]]=flat (H++ [R.agg [.J (ad k5) a02,.v (.bool k3)]]):=by simp[flat]
  rw[a19]at t;have cN:=(l0 _ _ _ _ _ _ _ t).1;have a27:=fJ t;refine aj (fA @p @r @x @y @z @X @Y (U.aI cN) @a27 @a98 @N) ?_;refine⟨⟨L+1,a14,S++ [(k5,k3)],_,l4,a03,aaU,W,by simp[b06],a18,?_,aaV⟩,aaU⟩;have:=jP (X:= .cells [.v (.int .u8 V.toNat),l4,.J [] .nil]) t (by rw[U.an _ _ B,U.ai]);rw[U.ea _ (a6I B),U.set_set]at this;exact this
 .obtain rfl:L=Q:=aaU;rw[a8T]at W;obtain⟨b10,b11⟩:S=(fC (iL k) L a00 []).1/\F=(fC (iL k) L a00 []).2:=by rw[<-W];trivial
  rw[<-b10,<-b11];refine aj (bt @p @r @x @y @z @X @Y @I) ?_;refine ah (pG _ _ o F (av.rs f).full) ?_;rintro c k2 ⟨a13,rfl⟩;obtain⟨b07,l⟩:=av.sV f (a10 _) a13;clear f;generalize dw F=h at*;obtain⟨s,K⟩:=h;simp only at l|-;have b04:=s.toNat_lt;have a11:IntKind.i64.wrap (s.toNat)=s.toNat:=wrap_i64 aaU aaU;refine aj (bx @p @r @x @y @z @a11) ?_;have c9:=(l0 _ _ _ _ _ _ _ l).1;have aM:=(l0 _ _ _ _ _ _ _ l).2;have a69: ∀A,((k2.del o).set G A) o=none:=λA=>by rw[U.an _ _ (a6I B),U.iB]
  have l5: ∀E b q D h l1 a,av (((k2.del o).set G (.cells b)).set o (ib q E)) D h l1 a->D G=some (.cells b)/\D g=some (.cells [.v (.int .u8 0),.J [] .nil,.J [] .nil]):=λE b q D h l1 a j=>⟨j.1 _ _ (by rw[U.an _ _ B,U.ai]),j.1 _ _ (by grind[U.an,U.eH])⟩;obtain⟨b12,b13⟩: ∃E,(((k2.del o).set G (.cells [.v (.int .u8 V.toNat),a,.J [] .nil])).set o (ib K E)).sub k2:=by
   obtain⟨E,j⟩:=(av.rs l).full;refine⟨E,λc u m=> ?_⟩;by_cases a47:c=G;grind[U.an,U.ai,Option.some.inj]
   .by_cases a29:c=o
    .subst a29;rw[U.ai]at m;exact j _ _ (by rw[U.ai];exact m)
    .rw[U.an _ _ a29,U.an _ _ a47]at m;exact j _ _ (by rw[U.an _ _ a29];exact m)
  generalize s.toNat=Z at*;refine cm (λC D=> ∃(L:Nat) (F:Rd) (T:List aq) (M:List R) (P:R) (E:Own),L<=Z/\fC (hC k) (Z - L) F T=fC (hC k) Z K []/\T.length=L/\aB bB T M/\av (((k2.del o).set G (.cells [.v (.int .u8 V.toNat),a,P])).set o (ib F E)) D 37 (flat M) P/\
    C 0= .J (e.map ak) u/\C 1= .v (.int .i64 k)/\C 4= .ptr g 0/\C 6= .ptr o 0/\C 7= .ptr G 0/\C 36= .v (.int .i64 Z)/\C 37= .v (.int .i64 L))
   (λC _=>match C 37 with| .v (.int _ v)=>(Z - v).toNat| _=>0) ?_ ?_
  .refine⟨0,K,[],[],.J [] .nil,b12,aaU,rfl,rfl,trivial,av.nil b13,?_⟩;exact cf (bh @p @r @x @y @z)
  clear p r x y z X Y;rintro C b05 ⟨l6,F,T,M,P,E,b30,W,a71,a04,f,p,r,x,y,z,l7,l8⟩;by_cases I:(l6:Int)<Z
  .have bt:=(l5 _ _ _ _ _ _ _ f).1;refine aj (cd @p @r @x @y @z @l7 @l8 @I (U.ae bt) @a52) ?_;refine ah (ZA _ _ o k n2 F (U.iB _ _) (av.rs f).full) ?_;rintro c k4 ⟨l2,a30,a73,k6,k7,k8,rfl⟩;rw[DX aaU]at W;obtain⟨a03,i⟩:=av.sV f (a69 _) l2;have a34:=(aP (N:=k6) (e5:=k7) (h6:=k8) a30).len;generalize hC k F=h at*;obtain⟨j9,a14⟩:=h;simp only at i W a30 a73 a34|-;have cN:=(l5 _ _ _ _ _ _ _ i).1;refine aj (fA @p @r @x @y @z @l7 @l8 @I (U.ae cN) @a52 @w) ?_;refine eK (by simp[aW,R.cells,a34]) aaV λb08 a15=> ?_;have a16:=av.mono i (U.af (X:= .cells (flat [R.agg (ab j9 k6 k7 k8)])) U.a6 a15);have a18:aB bB (T++ [j9]) (M++ [R.agg (ab j9 k6 k7 k8)]):=a04.snoc ⟨a30,a73,_,_,_,rfl⟩;have l3:(flat M).length=T.length*37:=by rw[cR (a04.cells λ_ _=>bB.cells),a04.len]
   have a05:(flat [R.agg (ab j9 k6 k7 k8)]).length=1*37:=by simp[flat,R.cells,a34]
   simp -dsimp -implicitDefEqProofs (disch:=first|omega|assumption|(simp only[bd,Nat.reduceAdd];try omega)) only[go_sem,simprocAttr,-List.reduceReplicate,p,r,x,y,z,l7,l8];refine fb a16 aaU (nC a05) a05 (by rw[l3,a05];omega) (by rw[l3,a05];omega) λl4 b09 t=> ?_;have a19:flat M++flat [R.agg (ab j9 k6 k7 k8)]=flat (M++ [R.agg (ab j9 k6 k7 k8)]):=by simp[flat]
   rw[a19]at t;have cN:=(l5 _ _ _ _ _ _ _ t).1;have a27:=fJ t;refine aj (fA @p @r @x @y @z @l7 @l8 (U.aI cN) @a27 @a99 @N) ?_;refine⟨⟨l6+1,a14,T++ [j9],_,l4,a03,aaU,W,by simp[a71],a18,?_,aaV⟩,aaU⟩;have:=jP (X:= .cells [.v (.int .u8 V.toNat),a,l4]) t (by rw[U.an _ _ B,U.ai]);rw[U.ea _ (a6I B),U.set_set]at this;exact this
  .obtain rfl:l6=Z:=aaU;rw[a8T]at W;obtain⟨b14,b15⟩:T=(fC (hC k) l6 K []).1/\F=(fC (hC k) l6 K []).2:=by rw[<-W];trivial
   rw[<-b14,<-b15];refine aj (bt @p @r @x @y @z @l7 @l8 @I) ?_;refine ah (Du _ _ o F (av.rs f).full) ?_;rintro c k4 ⟨l2,rfl⟩;obtain⟨a03,i⟩:=av.sV f (a69 _) l2;clear f;have bt:=(l5 _ _ _ _ _ _ _ i).1;have aM:=(l5 _ _ _ _ _ _ _ i).2;have l9:gP O k4 ⟨V,S,T⟩ a P:=by
    refine⟨_,H,M,?_,i,a01,a04,by simp only;omega,by simp only;omega⟩;obtain⟨b16,a36⟩:=l;refine⟨λc u m=> ?_,?_⟩
    .have n0:c≠o:=by rintro rfl;rw[n5]at m;cases m
     have a06:c≠G:=by rintro rfl;rw[a09]at m;cases m
     rw[U.an _ _ n0,U.an _ _ a06,U.eH _ n0];exact b16 _ _ (by rw[U.an _ _ n0,U.an _ _ a06];exact m)
    .rcases a36 with a36|⟨d,v,b17,n3,b18,n1,b31,b19⟩
     .exact .inl a36
     .have n0:d≠o:=by rintro rfl;rw[U.ai]at n1;cases n1
      rw[U.an _ _ n0]at n1;have a06:d≠G:=by grind
      rw[U.an _ _ a06]at n1;exact .inr ⟨d,v,b17,n3,b18,n1,by grind[U.an,U.eH],b19⟩
   have a38:=U.au a08 l9.sub;by_cases b:(pH F).e=0
   .simp -dsimp -implicitDefEqProofs (disch:=first|omega|assumption|(simp only[bd,Nat.reduceAdd];try omega)) only[go_sem,simprocAttr,-List.reduceReplicate,p,r,x,y,z,b,U.ae bt,k1];obtain⟨a74,a81,a42⟩:=l9.L;refine ah (DS ⟨V,S,T⟩ a74 a81 a P k a43 n2 k4 a42) ?_;rintro _ k4 ⟨rfl,rfl⟩;cases a83:dQ k ⟨V,S,T⟩with
    |false=>refine aj (gk @p @r @x @y @z @b (U.aI aM) @k0 @k1 @N @w @a7u) ?_;grind[U.a6]
    |true=>
     refine aj (cN @p @r @x @y @z @b (U.ae bt) @k1 @a7o) ?_;refine ah (y6 ⟨V,S,T⟩ a74 a81 a P k a43 n2 k4 a42) ?_;rintro q a84 ⟨a07,a86⟩;rw[sK,if_pos a83]at a86;obtain⟨b20,rfl⟩:=a86;replace l9:=l9.mono a07;replace a38:=U.au a38 a07;replace bt:=a07 _ _ bt;replace aM:=a07 _ _ aM;refine aj (bx @p @r @x @y @z @b) ?_;have a71:=y8 n2 a83 λh b21=>(a42.kids.all h b21).1;refine ah (DD (cG ⟨V,S,T⟩) e b20 u a84 aaU) ?_;rintro _ a84 ⟨rfl,rfl⟩;by_cases a88:cG ⟨V,S,T⟩=e
     .refine aj (gl @p @r @x @y @z @b @a88 (U.ae bt) (U.aI aM) @k0 @k1 @N @w @a7o) ?_;have:=l9.set (ob:= .cells [.v (.int .u8 V.toNat),a,P]) n4;refine⟨_,U.a6,a62 _ _ a38,?_⟩;exact⟨a,P,rfl,this.base (a62 _ _ a08)⟩
     .refine aj (gl @p @r @x @y @z @b @a88 (U.ae bt) (U.aI aM) @k0 @k1 @N @w @a7u) ?_;grind[U.a6]
   .refine aj (fA @p @r @x @y @z @b (U.aI aM) @k0 @k1 @N @w) ?_;grind[U.a6]
def DY: ∀(c:List (List Int×Bool)) (a:gM),a.aR.1.length<=8->a.aR.2.length<=8->(c.foldl dR a).aR.1.length<=8/\(c.foldl dR a).aR.2.length<=8
 | [],a,h1,b=>⟨h1,b⟩
 |d::c,a,h1,b=>by
  rw[a7j];refine DY c _ ?_ ?_<;>unfold dR<;>split
  .exact(oA _ _ 8 h1 b sU.1 sU.2).1
  .exact h1
  .exact(oA _ _ 8 h1 b sU.1 sU.2).2
  .exact b
def DZ: ∀(b:List aq) (a:gM),(∀d∈b,d.hE)->a.aR.1.length<=8->a.aR.2.length<=8->(b.foldl ev a).aR.1.length<=8/\(b.foldl ev a).aR.2.length<=8
 | [],a,_,h1,c=>⟨h1,c⟩
 |d::b,a,hk,h1,c=>by
  rw[a7j];have:=hk d aaV;exact DZ b _ (λh k=>hk h (by simp[k])) (oA _ _ 8 h1 c this.aT this.aS).1 (oA _ _ 8 h1 c this.aT this.aS).2
theorem uU (p:e<=8) (a:fI e b4=some w):w.sum.length=32/\w.aT.length<=8/\w.aS.length<=8/\w.key.length<=8:=by
 unfold fI at a;split at a
 .rename_i b;split at a
  .cases a
  .obtain rfl:=a6x a;obtain⟨x,_,_⟩:=kz b;have c:=uR p b;have d:=DY b4.rows ⟨0,b4.rows.length,([],[])⟩ aaV aaV;have h:=DZ b4.kids _ c d.1 d.2;refine⟨ox _,h.1,h.2,?_⟩;simp only[fm,keyOf];split
   .cases k:b4.rows with
    |nil=>simp
    |cons o r=>simp_all
   .split
    .cases k:b4.kids with
     |nil=>simp[az]
     |cons o r=>exact(c o (by rw[k];simp)).key
    .simp
 .cases a
def E0 (a:e<=8) (b:fI e b4=some w):w.cv:=by obtain⟨_,c,d,h⟩:=uU a b;exact⟨aaU,aaU,aaU⟩
variable{H:ag}
theorem bq.len (b:bq f e i H) {a:List UInt8} (c:A.length=32) (d:H.m A=some a):a.length<=1000000000000:=by obtain⟨h,_,k⟩:=b.mp;grind
def dA (d:ag) (a:Nat) (b:aq):Option bY:=
 match d.m b.sum with
 |none=>none
 |some h=>match ou a h with
  |none=>none
  |some c=>if fI a c=some b then some c else none
theorem uV (x:U) (X k7:Nat) (u:ag) (k8:bq x X k7 u) (c:aq) (W e f:Own) (v:c.sum.length=32) (a27:c.cv) (C:Nat) (k9:1<=C) (w:C<=8):
  AC Tryz.prog 124 [.ptr X 0,.agg (ab c W e f),.v (.int .i64 (C:Int))] x λg G=>x.sub G/\match dA u C c with
   |none=>g= .aJ [y9,.v (.int .i64 21)]
   |some D=> ∃d h,g= .aJ [gO D d h,.v (.int .i64 0)]/\gP x G D d h:=by
 refine bc hm Ol aaV ?_;have a: ∀l0,(R.agg l0).cells=l0:=λ_=>rfl;have k: ∀L y P d h l1:R,putAt [L,y,P] 0 [d,h,l1]= [d,h,l1]:=λ_ _ _ _ _ _=>rfl;have p: ∀L y P,aL true 3 [L,y,P]= .agg [L,y,P]:=λ_ _ _=>rfl;have o: ∀L y P:R,[L,y,P].length=3:=λ_ _ _=>rfl;have Y:=aP (N:=W) (e5:=e) (h6:=f) v;have A:=Y.len;have B:=(aP (N:= .nil) (e5:= .nil) (h6:= .nil) bj).len;refine aj (c2 @a @A) ?_;refine aN λi a02=> ?_;refine aj (c2 @a @A) ?_;refine aN λz H=> ?_;have I:i≠z:=by rintro rfl;rw[U.ai]at H;cases H
 have l2:x z=none:=by rw[U.an _ _ (a6I I)]at H;exact H
 have a29:=a6I I;obtain⟨S,K⟩: ∃S:U,S=(x.set i (.cells (ab c W e f))).set z (.cells [.v (.int .u8 0),.J [] .nil,.J [] .nil]):=⟨_,rfl⟩;have l3:x.sub S:=by rw[K];exact U.af (U.af U.a6 a02) l2
 have aM:S i=some (.cells (ab c W e f)):=by rw[K,U.an _ _ I,U.ai]
 have bx:S z=some (.cells [.v (.int .u8 0),.J [] .nil,.J [] .nil]):=by rw[K,U.ai]
 have Z: ∀(G) (M),x.sub G->x.sub (G.set z M):=λG M a03=>U.af a03 l2;have a04:R.agg (c.sum.map ak)=bz c.sum:=rfl;simp -dsimp -implicitDefEqProofs (disch:=first|omega|assumption|(simp only[bd,Nat.reduceAdd];try omega)) only[go_sem,simprocAttr,-List.reduceReplicate,a,A,U.an,I,U.ai,Y.t32];rw[<-K,a04];refine ah (Zh S X k7 u (k8.mono l3) c.sum v) ?_;rintro g a05 ⟨j9,b⟩;have k0:=U.au l3 j9;have k1:=j9 _ _ bx;have a06:=j9 _ _ aM;unfold dA;cases hm:u.m c.sum with
 |none=>rw[hm]at b;obtain rfl:=b;refine aj (bh @a (U.aI k1) @k @o @p) ?_;exact⟨_,U.a6,Z _ _ k0⟩
 |some y=>
  rw[hm]at b;obtain⟨M,rfl⟩:=b;refine aj @a ?_;refine ah (ZB y M C k9 w a05 (k8.len v hm)) ?_;rintro g l4 ⟨k2,b⟩;have a07:=U.au k0 k2;have l5:=k2 _ _ k1;have a08:=k2 _ _ a06;simp only;cases l6:ou C y with
  |none=>
   rw[l6]at b;obtain rfl:=b;refine aj (aE @a @k @o) ?_;refine aN λE l7=> ?_;have k3:z≠E:=by grind
   have a09:=a6I k3;refine aj (cN @a @k @o @p @U.set_set @U.an @k3 @a09 (U.aI l5)) ?_;grind[U.a6,U.au,U.af]
  |some D=>
   rw[l6]at b;obtain⟨d,h,rfl,T⟩:=b;simp -dsimp -implicitDefEqProofs (disch:=first|omega|assumption|(simp only[bd,Nat.reduceAdd];try omega)) only[go_sem,simprocAttr,-List.reduceReplicate,a,k,o,p];refine aN λE l7=> ?_;have k3:z≠E:=by grind
   have a30:i≠E:=by grind
   obtain⟨j,k4⟩: ∃j:U,j=l4.set E (.cells [.v (.int .u8 (D.kind.toNat)),d,h]):=⟨_,rfl⟩;have F:l4.sub j:=by rw[k4];exact U.af U.a6 l7
   have cd:j E=some (.cells [.v (.int .u8 (D.kind.toNat)),d,h]):=by rw[k4,U.ai]
   refine aj (bh @a @k @o @p @U.set_set) ?_;rw[<-k4];obtain⟨a10,a11,a13⟩:=(T.mono F).L;refine ah (DT D a10 a11 d h C k9 w j a13) ?_;rintro g l8 ⟨l9,b⟩;replace F:=U.au F l9;replace T:=T.mono F;have N:=F _ _ l5;have n0:=F _ _ a08;have n1:=l9 _ _ cd;have a14:=U.au a07 F;cases l:fI C D with
   |none=>
    rw[l]at b;obtain rfl:=b;have a15:putAt (ab az .nil .nil .nil) 0 (ab az .nil .nil .nil)=ab az .nil .nil .nil:=cy bj bj;simp -dsimp -implicitDefEqProofs (disch:=first|omega|assumption|(simp only[bd,Nat.reduceAdd];try omega)) only[go_sem,simprocAttr,-List.reduceReplicate,a,k,o,p,ch,B];refine aN λV r=> ?_;have O:z≠V:=by rintro rfl;rw[N]at r;cases r
    have n2:=a6I O;refine aj (gk @a @k @o @p @ch @B @a15 @U.set_set @U.an @O @n2 (U.aI N)) ?_;grind[U.a6,U.au,U.af]
   |some m=>
    rw[l]at b;obtain⟨n,q,s,rfl⟩:=b;have k5:=(uU w l).1;have a16:=E0 w l;have n3:=aP (N:=n) (e5:=q) (h6:=s) k5;have n4:=n3.len;have n5:putAt (ab az .nil .nil .nil) 0 (ab m n q s)=ab m n q s:=cy bj k5;refine aj (bt @a @k @o @p @ch @B @n4 @n5) ?_;refine aN λV r=> ?_;have O:z≠V:=by rintro rfl;rw[N]at r;cases r
    have n2:=a6I O;have a18:i≠V:=by rintro rfl;rw[n0]at r;cases r
    have a34:E≠V:=by rintro rfl;rw[n1]at r;cases r
    obtain⟨t,n9⟩: ∃t:U,t=l8.set V (.cells (ab m n q s)):=⟨_,rfl⟩;have Q:l8.sub t:=by rw[n9];exact U.af U.a6 r
    refine aj (ml @a @k @o @p @ch @B @n4 @n5 @U.set_set @U.ai @U.an @a18 n3.t37 Y.t37 (U.ae n0) @A) ?_;rw[<-n9];have a00:=Q _ _ N;have a01:=Q _ _ n1;have a19:=U.au a14 Q;replace T:=T.mono Q;refine ah (DR m c n q s W e f t k5 v a16) ?_;rintro _ t ⟨rfl,rfl⟩;by_cases k6:m=c
    .refine aj (bt @a @k @o @p @k6 @a7o (U.ae a01) (U.aI a00)) ?_;have:=T.set (ob:= .cells [.v (.int .u8 (D.kind.toNat)),d,h]) k1;refine⟨_,U.a6,Z _ _ a19,?_⟩;simp only[l,k6,if_true];exact⟨d,h,rfl,this.base (Z _ _ k0)⟩
    .refine aj (bt @a @k @o @p @k6 @a7u (U.ae a01) (U.aI a00)) ?_;grind[U.a6]
theorem Ext.set {d h a:Nat}{b k:U}{ob:bs} (p:Ext d h b k) (r:b a=none):Ext d h b (k.set a ob):=λo x y z c=>by
 have C:o≠a:=by rintro rfl;rw[r]at c;cases c
 rw[U.an _ _ C];exact p o x y z c
theorem ZC (b:U) (r G:Nat) (t:ag) (e:bq b r G t) (a:bY) (u v:List R) (L P:R) (o:Nat) (Y:1<=o) (g:o<=8) (w:fK b a L P u v):
  AC Tryz.prog 93 [.ptr r 0,gO a L P,.v (.int .i64 (o:Int))] b λi x=>match fI o a with
   |none=>b.sub x/\i= .aJ [.agg (ab az .nil .nil .nil),.v (.int .i64 1)]
   |some A=>bq x r G (fc t (cG a))/\Ext r G b x/\ ∃l6 l7 l8,i= .aJ [.agg (ab A l6 l7 l8),.v (.int .i64 0)]:=by
 refine bc hm Nq aaV ?_;have c: ∀Z,(R.agg Z).cells=Z:=λ_=>rfl;have j9: ∀y z C,aL true 3 [y,z,C]= .agg [y,z,C]:=λ_ _ _=>rfl;have B: ∀y z C:R,[y,z,C].length=3:=λ_ _ _=>rfl;have k0: ∀y z C:R,List.take 3 [y,z,C]= [y,z,C]:=λ_ _ _=>rfl;have D:=(aP (N:= .nil) (e5:= .nil) (h6:= .nil) bj).len;have l9:=(aP (N:= .nil) (e5:= .nil) (h6:= .nil) bj).t37;have k1:putAt (ab az .nil .nil .nil) 0 (ab az .nil .nil .nil)=ab az .nil .nil .nil:=cy bj bj;refine aj (c2 @c @B) ?_;refine aN λj n0=> ?_;refine aj (aE @c @ch @D) ?_;refine aN λd l=> ?_;have H:j≠d:=by rintro rfl;rw[U.ai]at l;cases l
 have E:b d=none:=by rw[U.an _ _ (a6I H)]at l;exact l
 obtain⟨S,m⟩: ∃S:U,S=(b.set j (.cells [.v (.int .u8 (a.kind.toNat)),L,P])).set d (.cells (ab az .nil .nil .nil)):=⟨_,rfl⟩;have k2:b.sub S:=by rw[m];exact U.af (U.af U.a6 n0) E
 have aM:S j=some (.cells [.v (.int .u8 (a.kind.toNat)),L,P]):=by rw[m,U.an _ _ H,U.ai]
 have bx:S d=some (.cells (ab az .nil .nil .nil)):=by rw[m,U.ai]
 have a04: ∀(x) (k3),b.sub x->b.sub (x.set d k3):=λx k3 h=>U.af h E;refine aj (cN @c @ch @D @B @j9 @k0 @U.an @H @U.ai) ?_;rw[<-m];refine ah (DT a u v L P o Y g S (w.mono k2)) ?_;rintro i k4 ⟨I,F⟩;have k5:=U.au k2 I;have k6:=I _ _ aM;have n:=I _ _ bx;cases K:fI o a with
 |none=>
  rw[K]at F;obtain rfl:=F;simp -dsimp -implicitDefEqProofs (disch:=first|omega|assumption|(simp only[bd,Nat.reduceAdd];try omega)) only[go_sem,simprocAttr,-List.reduceReplicate,c,ch,D,k1];refine aN λp k=> ?_;have k7:d≠p:=by rintro rfl;rw[n]at k;cases k
  have n1:=a6I k7;refine aj (cd @c @ch @D @k1 @l9 @U.set_set @U.an @k7 @n1 (U.aI n)) ?_;grind[U.a6,U.au,U.af]
 |some q=>
  rw[K]at F;obtain⟨T,V,W,rfl⟩:=F;have k8:dQ o a=true:=by grind[fI]
  have k9:=(uU g K).1;have l0:=aP (N:=T) (e5:=V) (h6:=W) k9;have M:=l0.len;have N:putAt (ab az .nil .nil .nil) 0 (ab q T V W)=ab q T V W:=cy bj k9;refine aj (bh @c @ch @D @M @N) ?_;refine aN λp k=> ?_;have n2:j≠p:=by rintro rfl;rw[k6]at k;cases k
  have s:=U.bI k5 k;have a05:d≠p:=by rintro rfl;rw[n]at k;cases k
  obtain⟨f,O⟩: ∃f:U,f=k4.set p (.cells (ab q T V W)):=⟨_,rfl⟩;have l1:k4.sub f:=by rw[O];exact U.af U.a6 k
  have bt:f p=some (.cells (ab q T V W)):=by rw[O,U.ai]
  refine aj (gk @c @ch @D @M @N @U.set_set @U.an @n2 (U.ae k6) @j9 @B @k0) ?_;rw[<-O];have l2:=U.au k5 l1;refine ah (y6 a u v L P o Y g f (w.mono l2)) ?_;rintro i n3 ⟨Q,F⟩;rw[sK,if_pos k8]at F;obtain⟨n4,rfl⟩:=F;have l3:=U.au l2 Q;have a06:=y8 g k8 λA n5=>(w.kids.all A n5).1;refine aj @c ?_;refine ah (Zj n3 r G t (e.mono l3) (cG a) n4 aaU) ?_;rintro _ a07 ⟨rfl,n9,X⟩;have l4:d≠r:=by rintro rfl;obtain⟨_,_,h⟩:=e.at_;rw[h]at E;cases E
  have l5:d≠G:=by rintro rfl;obtain⟨_,⟨_,_,h,_⟩,_⟩:=e.mp;rw[h]at E;cases E
  have a00:p≠r:=by rintro rfl;obtain⟨_,_,h⟩:=e.at_;rw[h]at s;cases s
  have a01:p≠G:=by rintro rfl;obtain⟨_,⟨_,_,h,_⟩,_⟩:=e.mp;rw[h]at s;cases s
  have a02:=X _ _ l4 l5 (Q _ _ (l1 _ _ n));have a03:=X _ _ a00 a01 (Q _ _ bt);refine aj (c9 @c (U.ae a03) (U.aI a02) l0.t37 @M @D @N) ?_;refine⟨_,U.a6,n9.other (U.an _ _ (a6I l4)) (U.an _ _ (a6I l5)),?_,T,V,W,rfl⟩;exact((Ext.of l3).trans X).set E
end Go.Proofs.YtcfpcblgmmeioaaGreat
namespace Go.a1
def val:List Bool->Nat
 | []=>0
 |b::a=>(if b then 2^a.length else 0)+val a
theorem nD: ∀a:List Bool,val a<2^a.length
 | []=>by simp[val]
 |b::a=>by
  have:=nD a;simp only[val,a6E,aac];split<;>omega
def lexB:List Bool->List Bool->Bool
 |b::c,a::d=>if b=a then lexB c d else a
 | _,_=>false
def pN: ∀ {a b:List Bool},a.length=b.length->(val a<val b↔lexB a b=true)
 | [],[],_=>by trivial
 |d::a,h::b,k=>by
  have c:a.length=b.length:=by simpa using k
  have o:=nD a;have p:=nD b;simp only[val,lexB];rw[c]at o|-;cases d<;>cases h<;>simp[<-pN c]<;>omega
theorem val_inj: ∀ {a b:List Bool},a.length=b.length->val a=val b->a=b
 | [],[],_,_=>rfl
 |h::a,k::b,o,c=>by
  have d:a.length=b.length:=by simpa using o
  have p:=nD a;have r:=nD b;simp only[val]at c;rw[d]at p c;have:h=k:=by grind
  subst this;rw[val_inj d aaU]
theorem E1 {b c a d:List Bool} (h:b.length=a.length):lexB (b++c) (a++d)=if b=a then lexB c d else lexB b a:=by
 induction b generalizing a with
 |nil=>grind
 |cons k b ih=>
  match a,h with
  |o::a,h=>grind[lexB]
def fM (a:List Nat) (b:Nat):List Bool:=a.map (·.testBit b)
def cj (a:List Nat):Nat->List Bool
 |0=> []
 |b+1=>fM a b++cj a b
def E2 (b:List Nat): ∀a,(cj b a).length=b.length*a
 |0=>by rfl
 |a+1=>by simp[cj,fM,E2 b a,Nat.mul_succ];omega
def pick (b:(Nat×Nat)×Nat) (a:Nat×Nat):(Nat×Nat)×Nat:=
 if b.2<a.1^^^a.2/\b.2<b.2^^^(a.1^^^a.2)then(a,a.1^^^a.2)else b
variable{e i v M b9 j2:Nat}
def ZD (a:i<2^e) (b:v<2^e):i^^^v<2^e:=a9g a b
def uW (a:e.testBit i=true):2^i<=e:=Nat.ge_two_pow_of_testBit a
theorem sW (a:e<2^(i+1)) (b:e.testBit i=false):e<2^i:=by grind[Nat.lt_pow_two_of_testBit,Nat.testBit_lt_two_pow,Nat.lt_of_lt_of_le,Nat.pow_le_pow_right]
def E3 {c:Nat}: ∀(d:List (Nat×Nat)) (b:(Nat×Nat)×Nat),b.2.testBit c=true->b.2<2^(c+1)->(∀a∈d,a.1^^^a.2<2^(c+1))->d.foldl pick b=b
 | [],b,_,_,_=>rfl
 |a::d,b,k,o,p=>by
  have h:=p a aaV;have:pick b a=b:=by
   simp only[pick];rw[if_neg];rintro⟨x,y⟩;have z:=uW k;cases cr:(a.1^^^a.2).testBit c with
   |false=>have:=sW h cr;omega
   |true=>
    have r:(b.2^^^(a.1^^^a.2)).testBit c=false:=by rw[a9T,k,cr];rfl
    have:=sW (ZD o h) r;omega
  rw[a7j,this];exact E3 d b k o (λa h=>p a (by simp[h]))
theorem ZE {b:(Nat×Nat)×Nat}{a:Nat×Nat} (c:b.2<2^e) (d:(a.1^^^a.2).testBit e=true):pick b a=(a,a.1^^^a.2):=by simp only[pick];refine if_pos ⟨a7L c (uW d),a7L c (uW ?_)⟩;grind[Nat.testBit_lt_two_pow]
theorem E4 (b:i.testBit e=false) (c:v.testBit e=true) (d: ∀a,e<a->i.testBit a=v.testBit a):i<v:=by
 have h:i>>>(e+1)=v>>>(e+1):=a9a λa=>by
  grind
 have k:i%2^(e+1)<2^e:=sW (a8E _ (Nat.two_pow_pos _)) (by grind);have o:2^e<=v%2^(e+1):=uW (by grind);grind[Nat.div_add_mod,Nat.shiftRight_eq_div_pow]
theorem ZF (o:i^^^v<2^(e+1)) (b:i.testBit e≠v.testBit e):i<v↔v.testBit e=true:=by
 have h: ∀a,e<a->i.testBit a=v.testBit a:=λa k=>by
  have p:(i^^^v).testBit a=false:=a8C (a7L o (a8o aaU aaU));simp_all
 cases c:v.testBit e with
 |true=>
  have d:i.testBit e=false:=by rw[c]at b;simpa using b
  simp only[iff_true];exact E4 d c h
 |false=>
  have d:i.testBit e=true:=by rw[c]at b;simpa using b
  have:=E4 c d (λa k=>(h a k).symm);grind
theorem E5 (a:Nat): ∀(b c:List Nat),b.length=c.length->(∀h∈b.zip c,h.1^^^h.2<2^(a+1))->fM b a≠fM c a-> ∀o:(Nat×Nat)×Nat,o.2<2^a->
  (((b.zip c).foldl pick o).1.1<((b.zip c).foldl pick o).1.2↔lexB (fM b a) (fM c a)=true)
 | [],[],_,_,x,_,_=>absurd rfl x
 |p::b,r::c,E,y,z,o,C=>by
  have F:b.length=c.length:=by simpa using E
  have d:=y (p,r) aaV;simp only[List.zip_cons_cons,a7j,fM,a6Q,lexB]at z|-;by_cases k:p.testBit a=r.testBit a
  .rw[if_pos k];have G:(p^^^r).testBit a=false:=by rw[a9T,k];simp
   refine E5 a b c F (λh d=>y h (by simp[d])) (λx=>z ?_) _ ?_
   .rw[k];exact congrArg _ x
   .simp only[pick];split
    .exact sW d G
    .exact C
  .rw[if_neg k];have D:(p^^^r).testBit a=true:=by simp_all
   rw[ZE C D,E3 _ _ D d (λh d=>y h (by simp[d]))];exact ZF d k
theorem ZG {b c:List Nat} (r:b.length=c.length) (k: ∀a∈b.zip c,a.1^^^a.2<2^(e+1)) (o:fM b e=fM c e): ∀a∈b.zip c,a.1^^^a.2<2^e:=by
 intro a d;refine sW (k a d) ?_;obtain⟨h,p,rfl⟩:=a7l d;simp only[List.length_zip]at p;have x:(fM b e)[h]? =(fM c e)[h]? :=by rw[o]
 grind[fM,List.getElem?_eq_getElem,Option.some.injEq]
theorem E6: ∀(d:Nat) (b c:List Nat),b.length=c.length->(∀h∈b.zip c,h.1^^^h.2<2^d)-> ∀a:Nat×Nat,a∈b.zip c->
  (((b.zip c).foldl pick (a,0)).1.1<((b.zip c).foldl pick (a,0)).1.2↔lexB (cj b d) (cj c d)=true)
 |0,b,c,o,p,a,r=>by
  have: ∀(k:List (Nat×Nat)),(∀h∈k,h.1^^^h.2<2^0)->k.foldl pick (a,0)=(a,0):=by
   intro k
   induction k with
   |nil=>intro _;rfl
   |cons h k ih=>simp_all [pick]
  rw[this _ p];have z:=p a r;have x:a.1=a.2:=a9a λy=>by
   have C:(a.1^^^a.2).testBit y=false:=by simp_all
   grind
  simp[cj,lexB,x]
 |d+1,b,c,o,p,a,r=>by
  simp only[cj];rw[E1 (by simp[fM,o])];by_cases he:fM b d=fM c d
  .rw[if_pos he];exact E6 d b c o (ZG o p he) a r
  .rw[if_neg he];grind[E5,Nat.two_pow_pos]
theorem ZH {c d:List Nat} (p:c.length=d.length): ∀a,cj c a=cj d a->(∀h∈c,h<2^a)->(∀h∈d,h<2^a)->c=d:=by
 intro a r y z;have x: ∀a,cj c a=cj d a-> ∀b,b<a->fM c b=fM d b:=by
  intro a
  induction a with
  |zero=>intro _ b k;omega
  |succ a ih=>grind[cj,List.append_inj,fM]
 refine aad p λo C D=>a9a λb=> ?_;by_cases k:b<a
 .have E:(fM c b)[o]? =(fM d b)[o]? :=by rw[x a r b k]
  grind[fM,List.getElem?_eq_getElem]
 grind[Nat.lt_of_lt_of_le,List.getElem_mem,Nat.pow_le_pow_right,Nat.testBit_lt_two_pow]
def iO:Nat->List Bool->List UInt8
 |0,_=> []
 |b+1,a=>UInt8.ofNat (val (a.take 8))::iO b (a.drop 8)
def E7: ∀(a:Nat) (b:List Bool),(iO a b).length=a
 |0,_=>rfl
 |a+1,b=>by simp[iO,E7 a]
def sX:List UInt8->List UInt8->Bool
 |a::c,b::d=>if a=b then sX c d else decide (a<b)
 | _,_=>false
theorem ZI (b:e<256) (c:i<256) (a:UInt8.ofNat e=UInt8.ofNat i):e=i:=by have:=congrArg UInt8.toNat a;grind[UInt8.toNat_ofNat',Nat.mod_eq_of_lt]
theorem E8: ∀(c:Nat) (a b:List Bool),a.length=8*c->b.length=8*c->sX (iO c a) (iO c b)=lexB a b
 |0,a,b,d,r=>by
  obtain rfl:=a6F (by simpa using d);obtain rfl:=a6F (by simpa using r);rfl
 |c+1,a,b,x,hm=>by
  have h:(a.take 8).length=8:=aaW;have k:(b.take 8).length=8:=aaW;have o:val (a.take 8)<256:=by grind[nD]
  have p:val (b.take 8)<256:=by grind[nD]
  have ih:=E8 c (a.drop 8) (b.drop 8) aaW aaW
  conv=>rhs;rw[<-a7f 8 a,<-a7f 8 b]
  rw[E1 (h.trans k.symm)];simp only[iO,sX];by_cases he:a.take 8=b.take 8
  .rw[he];simp[ih]
  .rw[if_neg he,if_neg (λd=>he (val_inj (h.trans k.symm) (ZI o p d)))];have:=pN (h.trans k.symm);have y:UInt8.ofNat (val (a.take 8))<UInt8.ofNat (val (b.take 8))↔val (a.take 8)<val (b.take 8):=by rw[UInt8.lt_iff_toNat_lt];simp[a8n o,a8n p]
   simp_all
def ZJ {b a c:List Bool} (d:b.length=a.length) (h:a.length=c.length) (k:lexB b a=true) (o:lexB a c=true):lexB b c=true:=by rw[<-pN d]at k;rw[<-pN h]at o;rw[<-pN (d.trans h)];omega
theorem ZK {a b:List Bool} (c:a.length=b.length) (d:lexB a b=false) (h:lexB b a=false):a=b:=by refine val_inj c ?_;have k:=pN c;have o:=pN c.symm;grind
end Go.a1
namespace Go.Proofs.YtcfpcblgmmeioaaGreat
open Go Go.bD
variable{e i v M b9 j2:Nat}
theorem E9 (b:e<18446744073709551616) (c:i<18446744073709551616):br .xor (.int .u64 (e:Int)) (.int .u64 (i:Int))=some (.int .u64 ((e^^^i:Nat):Int)):=by
 have d:br .xor (.int .u64 (e)) (.int .u64 (i))=some (.int .u64 (IntKind.u64.wrap (BitVec.ofInt 64 (e)^^^BitVec.ofInt 64 (i)).toNat)):=rfl;have h: ∀a:Nat,a<18446744073709551616->(BitVec.ofInt 64 (a)).toNat=a:=λa k=>by simp;omega
 grind[Nat.xor_lt_two_pow,BitVec.toNat_xor,wrap_u64]
def oB (a:Int):cq a<18446744073709551616:=(BitVec.ofInt 64 a^^^BitVec.ofInt 64 9223372036854775808).isLt
def Ea (b:Int) (a:U):AC Tryz.prog 154 [.v (.int .i64 b)] a λc d=>d=a/\c= .v (.int .u64 (cq b:Int)):=by refine bc hm P6 aaV ?_;refine aj @Dh ?_;exact⟨a,U.a6,rfl⟩
def ZL (a:Int) (b:U):AC Tryz.prog 153 [.v (.int .i64 a)] b λd h=>h=b/\d= .v (.bool (decide (1<=a)&&decide (a<=8))):=by
 refine bc hm P4 aaV ?_;by_cases c:1<=a
 .refine aj @c ?_;exact⟨b,U.a6,by simp[]⟩
 .refine aj @c ?_;exact⟨b,U.a6,by simp[]⟩
def gQ (b:(Int×Int)×Nat) (a:Int×Int):(Int×Int)×Nat:=
 if b.2<cq a.1^^^cq a.2/\b.2<b.2^^^(cq a.1^^^cq a.2)then(a,cq a.1^^^cq a.2)else b
def bC (a b:List Int):Bool:=
 if 1<=a.length/\a.length<=8/\b.length=a.length then
  decide (((a.zip b).foldl gQ ((a.zip b).headD (0,0),0)).1.1<((a.zip b).foldl gQ ((a.zip b).headD (0,0),0)).1.2)
 else false
theorem ya (a c:List Int) (l m:Own) (E:U):
  AC Tryz.prog 92 [.J (ad a) l,.J (ad c) m] E λM P=>P=E/\M= .v (.bool (bC a c)):=by
 refine bc hm No aaV ?_;have D:=bM (q:=a);have S:=bM (q:=c);refine aj @D ?_;refine ah (ZL _ _) ?_;rintro _ E ⟨rfl,rfl⟩;unfold bC;by_cases h1:1<=a.length/\a.length<=8
 .have n:(1:Int)<=a.length:=aaU;have q:(a.length:Int)<=8:=aaU;by_cases s:(c.length:Int)=a.length
  .have T:c.length=a.length:=aaU;rw[if_pos ⟨h1.1,h1.2,T⟩];refine aj (bx @D @S @n @q @s @a7o) ?_;have k0:(a.zip c).length=a.length:=by simp[T]
   have t: ∀b,b<a.length-> ∃d,(a.zip c)[b]? =some d/\a[b]? =some d.1/\c[b]? =some d.2:=λb N=>by
    simp_all
   obtain⟨F,G,O,Q⟩:=t 0 aaU;have X:(a.zip c).headD (0,0)=F:=by
    cases u:a.zip c with
    |nil=>rw[u]at G;cases G
    |cons k1 k2=>rw[u]at G;simpa using G
   rw[X];refine cm (λk P=> ∃(b o:Nat) (h:(Int×Int)×Nat),b<=a.length/\o<a.length/\P=E/\h=((a.zip c).take b).foldl gQ (F,0)/\h.2<18446744073709551616/\a[o]? =some h.1.1/\c[o]? =some h.1.2/\
     k 0= .J (ad a) l/\k 1= .J (ad c) m/\k 5= .v (.int .i64 o)/\k 6= .v (.int .u64 h.2)/\k 21= .v (.int .i64 a.length)/\k 22= .v (.int .i64 b))
    (λk _=>match k 22 with| .v (.int _ Y)=>a.length - Y.toNat| _=>0) ⟨0,0,(F,0),aaU,aaU,rfl,aaV,aaV,O,Q,?_⟩ ?_
   .exact cf @D
   rintro k v ⟨b,o,h,N,w,rfl,V,L,W,e,p,r,x,y,z,C⟩;by_cases f:(b:Int)<a.length
   .obtain⟨d,Z,A,B⟩:=t b aaU;have j9:((a.zip c).take (b+1)).foldl gQ (F,0)=gQ h d:=by rw[a7C,Z,a8z,<-V];rfl
    simp -dsimp -implicitDefEqProofs (disch:=first|omega|assumption|(simp only[bd,Nat.reduceAdd];try omega)) only[go_sem,simprocAttr,-List.reduceReplicate,p,r,x,y,z,C,f,gr A,gr B,oy];refine ah (Ea d.1 _) ?_;rintro _ v ⟨rfl,rfl⟩;simp -dsimp -implicitDefEqProofs (disch:=first|omega|assumption|(simp only[bd,Nat.reduceAdd];try omega)) only[go_sem,simprocAttr,-List.reduceReplicate,p,r,x,y,z,C,f,gr A,gr B,oy];refine ah (Ea d.2 _) ?_;rintro _ v ⟨rfl,rfl⟩;have H:cq d.1^^^cq d.2<18446744073709551616:=a9g (n:=64) (oB _) (oB _);have k3:h.2^^^(cq d.1^^^cq d.2)<18446744073709551616:=a9g (n:=64) L H;have g:=E9 (oB d.1) (oB d.2);have i:=E9 L H;rw[gQ]at j9;generalize cq d.1^^^cq d.2=I at*;by_cases j:(h.2)<(I:Int)
    .by_cases K:(h.2)<((h.2^^^I):Int)
     .refine aj (cd @p @r @x @y @z @C @g @i @j @K) ?_;grind
     .refine aj (cd @p @r @x @y @z @C @g @i @j @K) ?_;refine⟨⟨b+1,o,h,aaU,w,?_,L,W,e,?_⟩,aaU⟩
      .grind
      .simp
    .refine aj (cN @p @r @x @y @z @C @g @i @j) ?_;refine⟨⟨b+1,o,h,aaU,w,?_,L,W,e,?_⟩,aaU⟩
     .grind
     .simp
   .obtain rfl:b=a.length:=aaU;rw[a6z aaU]at V;simp -dsimp -implicitDefEqProofs (disch:=first|omega|assumption|(simp only[bd,Nat.reduceAdd];try omega)) only[go_sem,simprocAttr,-List.reduceReplicate,p,r,x,y,z,C,f,gr W,gr e,oy];exact⟨_,U.a6,rfl,by rw[V]⟩
  .have T: ¬c.length=a.length:=aaU;refine aj (bx @D @S @n @q @s @a7o) ?_;exact⟨_,U.a6,rfl,by simp_all⟩
 .have:(decide ((1:Int)<=a.length)&&decide ((a.length:Int)<=8))=false:=by grind
  refine aj (aM @D @S @this @a7u) ?_;exact⟨_,U.a6,rfl,by grind⟩
def kC (a b:List Int):Int:=if bC a b=true then -1 else if bC b a=true then 1 else 0
def yb (a b:List Int) (d h:Own) (c:U):
  AC Tryz.prog 47 [.J (ad a) d,.J (ad b) h] c λk o=>o=c/\k= .v (.int .i64 (kC a b)):=by
 refine bc hm LW aaV ?_;refine bT ?_;refine ah (ya a b d h c) ?_;rintro _ c ⟨rfl,rfl⟩;unfold kC;cases h1:bC a b with
 |true=>refine bT ?_;exact⟨_,U.a6,rfl⟩
 |false=>
  refine bT ?_;refine ah (ya b a h d c) ?_;rintro _ c ⟨rfl,rfl⟩;cases p:bC b a with
  |true=>refine bT ?_;exact⟨_,U.a6,rfl⟩
  |false=>refine bT ?_;exact⟨_,U.a6,rfl⟩
end Go.Proofs.YtcfpcblgmmeioaaGreat
namespace Go.a1
variable{b0:Type}
def ew:Nat->List b0->List (List b0)
 |0,_=> []
 |b+1,a=>a.take (a.length/(b+1)+if 0<a.length%(b+1)then 1 else 0)::ew b (a.drop (a.length/(b+1)+if 0<a.length%(b+1)then 1 else 0))
def bS (a:Nat):Nat:=(a+3)/4
def chunks (a:List b0):List (List b0):=ew (bS a.length) a
theorem Eb: ∀(a:Nat) (b:List b0),ew a b=(List.range a).map λh=>(b.drop (h*(b.length/a)+min h (b.length%a))).take (b.length/a+if h<b.length%a then 1 else 0)
 |0,b=>rfl
 |a+1,b=>by
  have y:=a9x b.length (a+1);have z:=a8E b.length (aaR a);simp only[ew];generalize C:b.length/(a+1)=d at*;generalize D:b.length%(a+1)=c at*;rw[Eb a,aas,a6Q,a8D];congr 1
  .simp
  .by_cases p:a=0
   .subst p;simp
   have k:(b.drop (d+if 0<c then 1 else 0)).length=d*a+(c - if 0<c then 1 else 0):=by grind
   have o:c -(if 0<c then 1 else 0)<a:=by split<;>omega
   have r:(b.drop (d+if 0<c then 1 else 0)).length/a=d:=by rw[k,aaQ,Nat.mul_add_div aaU,Nat.div_eq_of_lt o];rfl
   have x:(b.drop (d+if 0<c then 1 else 0)).length%a=c - if 0<c then 1 else 0:=by rw[k,aaQ,Nat.mul_add_mod,a8n o]
   rw[r,x];refine a8i λh E=> ?_;simp only[Function.comp,a7p];grind
def Ec: ∀(a:Nat) (b:List b0),(0<a\/b= [])->(ew a b).flatten=b
 |0,b,c=>by rcases c with c|c;(·omega);(·subst c;rfl)
 |a+1,b,_=>by
  simp only[ew,a8p];rw[Ec a,a7f];by_cases d:a=0
  .right;subst d;simp
  .left;omega
def chunks_flatten (a:List b0):(chunks a).flatten=a:=Ec _ _ (by
 cases a with
 |nil=>simp
 |cons b a=>left;simp only[bS,a6E];omega)
theorem oC {a:List b0} (b:1<=a.length) (c:a.length<=4):chunks a= [a]:=by
 have:bS a.length=1:=by unfold bS;omega
 simp[chunks,this,ew,Nat.mod_one]
theorem sY {a:List b0} (b:a.length=5):chunks a= [a.take 3,a.drop 3]:=by simp_all [bS,chunks,ew,a6z]
abbrev Row:=List Int
structure yc where
 rows:List Row
structure yd (a:Type) where
 kids:List a
def T:Nat->Type
 |0=>yc
 |a+1=>yd (T a)
def leaf (a:List Row):T 0:=yc.mk a
variable{e i v M b9 j2:Nat}
def node (a:List (T e)):T (e+1):=yd.mk a
def rows (a:T 0):List Row:=yc.rows a
def kids {a:Nat} (b:T (a+1)):List (T a):=yd.kids b
variable{j1:List Row}
theorem rb:rows (leaf j1)=j1:=rfl
theorem fo {a:List (T e)}:kids (node a)=a:=rfl
def ig (a:T 0): ∃b,a=leaf b:=⟨rows a,rfl⟩
def gu (a:T (e+1)): ∃b,a=node b:=⟨kids a,rfl⟩
def len: {b:Nat}->T b->Nat
 |0,a=>(rows a).length
 | _+1,a=>(kids a).length
def ba:(a:Nat)->T a->List Row
 |0,b=>rows b
 |a+1,b=>(kids b).flatMap (ba a)
theorem hF:len (leaf j1)=j1.length:=rfl
def dI {a:List (T e)}:len (node a)=a.length:=rfl
theorem jn:ba 0 (leaf j1)=j1:=rfl
theorem fN {a:List (T e)}:ba (e+1) (node a)=a.flatMap (ba e):=rfl
theorem Ed (a:List Row):((chunks a).map leaf).flatMap (ba 0)=a:=by
 conv=>rhs;rw[<-chunks_flatten a]
 rw[a9J,a8D];congr 1;exact List.map_id _
theorem Ee (a:List (T e)):((chunks a).map node).flatMap (ba (e+1))=a.flatMap (ba e):=by
 conv=>rhs;rw[<-chunks_flatten a]
 induction chunks a with
 |nil=>rfl
 |cons b c ih=>rw[a6Q,a7a,ih,a8p,a7r];rfl
def WF:(b:Nat)->T b->Prop
 |0,a=>2<=len a/\len a<=4
 |b+1,a=>2<=len a/\len a<=4/\ ∀c∈kids a,WF b c
def lx:(a:Nat)->T a->Prop
 |0,_=>True
 |a+1,b=> ∀c∈kids b,WF a c
theorem hf {a:T e}:WF e a↔2<=len a/\len a<=4/\lx e a:=by
 cases e with
 |zero=>simp[WF,lx]
 |succ e=>rfl
def jQ (b:Nat) (a:T b):Prop:=1<=len a/\len a<=4/\lx b a/\(0<b->2<=len a)
theorem jQ.of {a:T e} (b:WF e a):jQ e a:=by have:=hf.1 b;exact⟨aaU,this.2.1,this.2.2,λ_=>this.1⟩
def ye: ∀ {a:T e},1<=len a->lx e a->ba e a≠ []:=by
 induction e with
 |zero=>intro a c _ b;obtain⟨d,rfl⟩:=ig a;rw[jn]at b;subst b;trivial
 |succ e ih=>
  intro a c h b;obtain⟨d,rfl⟩:=gu a;rw[dI]at c
  match d,c with
  |k::d,_=>rw[fN,a7a]at b;have o:=hf.1 (h k a8u);exact ih aaU o.2.2 (List.append_eq_nil_iff.1 b).1
def cM (a:Nat) (b:T a):Row:=(ba a b).headD []
section
variable (lt:Row->Row->Bool)
structure Ord (ok:Row->Prop):Prop where
 jR: ∀p,lt p p=false
 trans: ∀p a r,ok p->ok a->ok r->lt p a=true->lt a r=true->lt p r=true
 total: ∀p a,ok p->ok a->lt p a=false->lt a p=false->p=a
def cQ (a:Row):List Row->Nat
 | _::b::c=>if lt a b then 0 else cQ a (b::c)+1
 | _=>0
def dT (c:List Row) (a:Row):List Row:=c.takeWhile (λb=>lt b a)++a::c.dropWhile (λb=>lt b a)
def eS (c:Row):(b:Nat)->T b->List (T b)
 |0,a=>(chunks (dT lt (rows a) c)).map leaf
 |b+1,a=>
  match(kids a)[cQ lt c ((kids a).map (cM b))]? with
  |some d=>(chunks ((kids a).take (cQ lt c ((kids a).map (cM b)))++eS c b d++(kids a).drop (cQ lt c ((kids a).map (cM b))+1))).map node
  |none=> []
def kD: {a:Nat}->T a->T a->List (T a)
 |0,b,c=>(chunks (rows b++rows c)).map leaf
 | _+1,b,c=>(chunks (kids b++kids c)).map node
def ly (b:List (T e)) (a:Nat) (c:T e):List (T e):=
 if 2<=len c then b.set a c
 else match b[if a=0 then 1 else a - 1]? with
  |some d=>b.take (a - 1)++(if a=0 then kD c d else kD d c)++b.drop (a - 1+2)
  |none=> []
def cJ (c:Row):(b:Nat)->T b->T b
 |0,a=>leaf ((rows a).filter λd=>decide (d≠c))
 |b+1,a=>
  match(kids a)[cQ lt c ((kids a).map (cM b))]? with
  |some h=>node (ly (kids a) (cQ lt c ((kids a).map (cM b))) (cJ c b h))
  |none=>a
end
theorem Ef (c:2<=j1.length) (d:j1.length<=5):(∀b∈(chunks j1).map leaf,WF 0 b)/\1<=(chunks j1).length/\(chunks j1).length<=2/\(j1.length<=4->(chunks j1).length=1):=by
 by_cases a:j1.length=5
 .rw[sY a];simp[WF,a,hF]
 .rw[oC aaU aaU];simp only[a6Q,a7W,a6U,forall_eq,a8c,WF,hF];grind
theorem Eg {a:List (T e)} (d:2<=a.length) (h:a.length<=5) (k: ∀b∈a,WF e b):(∀b∈(chunks a).map node,WF (e+1) b)/\1<=(chunks a).length/\(chunks a).length<=2/\(a.length<=4->(chunks a).length=1):=by
 by_cases c:a.length=5
 .rw[sY c];simp only[a6Q,a7W,a6W,a7V,or_false,forall_eq_or_imp,forall_eq,a6E,a6G,WF,dI,fo];grind
 .rw[oC aaU aaU];simp only[a6Q,a7W,a6U,forall_eq,a8c,WF,dI,fo];grind
variable{h4:Row}
section
variable {lt:Row->Row->Bool}{ok:Row->Prop}
abbrev hg (a:Row->Row->Bool) (b:List Row):Prop:=b.Pairwise λc d=>a c d=true
theorem yf {a:List Row} (c: ∀b∈j1,lt b h4=true):dT lt (j1++a) h4=j1++dT lt a h4:=by unfold dT;simp_all
theorem ZM {b:List Row} (h: ∀a∈j1,lt a h4=false):dT lt (b++j1) h4=dT lt b h4++j1:=by
 have c:j1.takeWhile (λa=>lt a h4)= []/\j1.dropWhile (λa=>lt a h4)=j1:=by
  cases j1 with
  |nil=>trivial
  |cons k j1=>simp_all
 induction b with
 |nil=>simp[dT,c.1,c.2]
 |cons d b ih=>unfold dT at ih|-;by_cases bZ:lt d h4=true;simp_all;simp_all
theorem sZ {a:Row}:h4∈dT lt j1 a↔h4=a\/h4∈j1:=by grind[dT,List.takeWhile_append_dropWhile]
theorem oD:(dT lt j1 h4).length=j1.length+1:=by unfold dT;have:=congrArg List.length (a7t (p:=λa=>lt a h4) (l:=j1));grind
def ZN (p:Ord lt ok) (r:hg lt j1) (h: ∀c∈j1,ok c) (x:ok h4) (y:h4∉j1):hg lt (dT lt j1 h4):=by
 induction j1 with
 |nil=>simp[dT]
 |cons a j1 ih=>
  have k:=a7i.1 r;have ih:=ih k.2 (λc b=>h c (by simp[b])) (λo=>y (by simp[o]));by_cases bZ:lt a h4=true
  .have d:dT lt (a::j1) h4=a::dT lt j1 h4:=yf (j1:= [a]) (by simpa using bZ);rw[d];refine a7i.2 ⟨λc b=> ?_,ih⟩;rcases sZ.1 b with rfl|b
   .exact bZ
   .exact k.1 c b
  .have d:dT lt (a::j1) h4=h4::a::j1:=by simp[dT,bZ]
   rw[d];have z:lt h4 a=true:=by
    cases o:lt h4 a with
    |true=>rfl
    |false=>exact absurd (p.total h4 a x (h a aaV) o (by simpa using bZ)) (λd=>y (by simp[d]))
   refine a7i.2 ⟨λc b=> ?_,r⟩;rcases a6W.1 b with rfl|b
   .exact z
   .exact p.trans h4 a c x (h a aaV) (h c (by simp[b])) z (k.1 c b)
theorem Eh (p:Ord lt ok) {d:Row} (r:ok d): ∀(h:List (List Row)),h≠ []->(∀D∈h,D≠ [])->hg lt h.flatten->(∀a∈h.flatten,ok a)->
  cQ lt d (h.map (·.headD []))<h.length/\(∀a∈(h.take (cQ lt d (h.map (·.headD [])))).flatten,lt a d=true)/\(∀a∈(h.drop (cQ lt d (h.map (·.headD []))+1)).flatten,lt d a=true)
 | [],V,_,_,_=>absurd rfl V
 | [W],_,_,_,_=>by simp[cQ]
 |W::k::x,_,e,m,y=>by
  simp only[a6Q,cQ];obtain⟨c,z,C⟩: ∃c z,k=c::z:=by
   cases C:k with
   |nil=>simp_all
   |cons c z=>simp
  have G:k.headD []=c:=by rw[C];rfl
  have E:=y c (by simp[C]);have F:hg lt (k::x).flatten:=by grind
  rw[G];by_cases o:lt d c=true
  .rw[if_pos o];refine⟨aaV,aaV,λa b=> ?_⟩;simp only[a7S,a8a]at b;have f:(k::x).flatten=c::(z++x.flatten):=by rw[C];rfl
   rw[f]at b F;rcases a6W.1 b with rfl|b
   .exact o
   .refine p.trans d c a r E (y a ?_) o ((a7i.1 F).1 a b);simp_all
  .rw[if_neg o];have ih:=Eh p r (k::x) aaV (λD L=>e D (by simp at L|-;exact .inr L)) F (λa b=>y a (by simp_all));simp only[a6Q,G]at ih;obtain⟨g,i,j⟩:=ih;refine⟨by simp at g|-;omega,λa b=> ?_,λa b=>j a (by trivial)⟩;simp only[a9w,a8p,a6L]at b;rcases b with b|b
   .
    have P:lt a c=true:=by grind
    by_cases S:c=d
    .rw[<-S];exact P
    .have l:=y a (by simp[b]);cases T:lt c d with
     |true=>exact p.trans a c d l E r P T
     |false=>exact absurd (p.total c d E r T (by simpa using o)) S
   .exact i a b
end
end Go.a1
namespace Go.Proofs.YtcfpcblgmmeioaaGreat
open Go Go.bD
variable{b5:FuncId}{g B c0:List R}
theorem ZO (a:List (List Int)) (z:List R) (k:R) (d:U) (C:aB isRow a z) (D:bJ d 1 k z) (u:a.length<=1000000000000) {h:List Int->Bool} (E:hc isRow d b5 g B h):
  AC Tryz.prog 142 [k,.bG b5 g B] d λe o=>o=d/\ ∃F:Int,e= .v (.int .i64 F)/\decide (0<=F)=a.any h:=by
 refine bc hm OY aaV ?_;have f:=C.len;have i:=D.len;rw[f]at i;refine aa ?_;refine cm (λc o=> ∃b:Nat,b<=a.length/\o=d/\c 0=k/\c 1= .bG b5 g B/\c 7= .v (.int .i64 a.length)/\c 8= .v (.int .i64 b)/\(a.take b).any h=false)
  (λc _=>match c 8 with| .v (.int _ j)=>a.length - j.toNat| _=>0) ⟨0,aaU,rfl,?_⟩ ?_
 .refine aa ?_;simp
 rintro c p ⟨b,v,rfl,G,L,P,S,T⟩;by_cases V:(b)<(a.length:Int)
 .have r:a[b]? =some a[b]:=a6y aaU;have l:a.take (b+1)=a.take b++ [a[b]]:=by rw[a7C,r];rfl
  have m:a[b]'aaU∈a:=a6Z _;generalize a[b]'aaU=W at r l m;obtain⟨x,n,y⟩:=C.get r;obtain⟨q,w,s⟩:=D.get b x n;have A:cY false 1 p q=some x:=by have t:=s.ld p U.a6 false 1 aaU (by rw[isRow.cells y];omega);rw[t];obtain⟨H,rfl⟩:=y;rfl
  refine aa ?_;refine eL E.1 (E.2 W x _ y U.a6) ?_;rintro _ p ⟨rfl,rfl⟩;cases I:h W with
  |true=>refine aj (bh @G @L @P @S @V) ?_;refine⟨_,U.a6,rfl,_,rfl,?_⟩;grind
  |false=>refine aa ?_;grind
 .obtain rfl:b=a.length:=aaU;refine aj (bh @G @L @P @S @V) ?_;rw[a6V]at T;exact⟨_,U.a6,rfl,_,rfl,by rw[T];simp⟩
def Ei (b:List (List Int)) (c:List R) (d:R) (a:U) (k:aB isRow b c) (o:bJ a 1 d c) (p:b.length<=1000000000000) {h:List Int->Bool} (r:hc isRow a b5 g B h):
  AC Tryz.prog 88 [d,.bG b5 g B] a λx y=>y=a/\x= .v (.bool (b.any h)):=by
 refine bc hm Nf aaV ?_;refine aa ?_;refine ah (ZO b c d a k o p r) ?_;rintro _ C ⟨rfl,D,rfl,z⟩;refine bT ?_;exact⟨_,U.a6,rfl,by rw[z]⟩
def ZP (c:Int) (b:List Int) (d:R) (r:isRow b d) (a:U) (h:Nat) (k:a.read h=some [.v (.int .i64 c)]):
  AC Tryz.prog 89 [d,.ptr h 0] a λx y=>y=a/\x= .v (.bool (!decide ((b.length:Int)=c))):=by
 obtain⟨z,rfl⟩:=r;refine bc hm Nh aaV ?_;have o:=bM (q:=b);by_cases p:(b.length)=c
 .refine aj (aE @o @k @p) ?_;exact⟨a,U.a6,by simp[]⟩
 .refine aj (aE @o @k @p) ?_;exact⟨a,U.a6,by simp[]⟩
def oE (a:Int) (b:List (List Int)):Bool:=decide (1<=a)&&decide (a<=8)&&b.all λc=>decide ((c.length:Int)=a)
theorem yg (a:Int) (c:List (List Int)) (d:List R) (h:R) (b:U) (x:aB isRow c d) (y:bJ b 1 h d) (z:c.length<=1000000000000):
  AC Tryz.prog 44 [.v (.int .i64 a),h] b λC k=>k=b/\C= .v (.bool (oE a c)):=by
 refine bc hm LN aaV ?_;refine aa ?_;refine aN λo D=> ?_;have p:=U.af (X:= .cells [.v (.int .i64 a)]) (U.a6) D;have c2:(b.set o (.cells [.v (.int .i64 a)])) o=some (.cells [.v (.int .i64 a)]):=U.ai _ _ _;unfold oE;by_cases h1:1<=a
 .by_cases r:a<=8
  .refine aa ?_;refine ah (Ei c d h _ x (y.mono p) z (b5:=89) ⟨by rfl,λE F k G L=>ZP a E F G k o (U.ae (L _ _ c2))⟩) ?_;rintro _ _ ⟨rfl,rfl⟩;refine bT ?_;refine⟨b,p,rfl,?_⟩;rw[List.any_eq_not_all_not];simp[h1,r]
  .simp -dsimp -implicitDefEqProofs (disch:=first|omega|assumption|(simp only[bd,Nat.reduceAdd];try omega)) only[go_sem,simprocAttr,-List.reduceReplicate,h1,r];simp_all
 .refine aj @h1 ?_;simp_all
theorem uX (a:Nat) (h:a<=1000000000000) (b:U):AC Tryz.prog 51 [.v (.int .i64 (a:Int))] b λc d=>d=b/\c= .v (.int .i64 (a1.bS a:Int)):=by refine bc hm M5 aaV ?_;refine bT ?_;refine⟨b,U.a6,rfl,?_⟩;grind[a1.bS,wrap_i64]
def dB (a:ag) (c:Nat) (b:bY):Except Int aq×ag:=
 match fI c b with
 |none=>(.error 1,a)
 |some d=>(.ok d,fc a (cG b))
def cU (a:List (List Int)):bY:=⟨2,a.map λb=>(b,true),[]⟩
def eo (a:List aq):bY:=⟨3,[],a⟩
abbrev dJ (a b:Nat):R:= .agg [.ptr a 0,.v (.int .i64 (b:Int))]
def gR (d:Except Int aq) (b:R):Prop:=
 match d with
 | .error c=>c≠0/\b= .aJ [.agg (ab az .nil .nil .nil),.v (.int .i64 c)]
 | .ok a=>a.sum.length=32/\a.cv/\ ∃h k o,b= .aJ [.agg (ab a h k o),.v (.int .i64 0)]
variable{n b6:R}
theorem gR.shape {c:Except Int aq} (d:gR c n): ∃a h k o b,a.sum.length=32/\n= .aJ [.agg (ab a h k o),.v (.int .i64 b)]:=by
 cases c with
 |error b=>exact⟨az,_,_,_,b,bj,d.2⟩
 |ok a=>obtain⟨p,_,h,k,o,r⟩:=d;grind
variable{f s e0:U}{e i v M b9 j2:Nat}{H:ag}
def bq.cA (a:bq f i v H) (b:f e=none):e≠i/\e≠v:=by
 refine⟨?_,?_⟩
 .rintro rfl;obtain⟨_,_,a⟩:=a.at_;rw[a]at b;cases b
 .rintro rfl;obtain⟨_,⟨_,_,a,_⟩,_⟩:=a.mp;rw[a]at b;cases b
theorem bq.set {d:U}{a b c:Nat}{h:ag}{ob:bs} (o:bq d a b h) (k:c≠a/\c≠b):bq (d.set c ob) a b h:=o.other (U.an _ _ (a6I k.1)) (U.an _ _ (a6I k.2))
def yh (d:U) (h k:Nat) (o:ag) (C:bq d h k o) (c:bY) (D E:List R) (r x:R) (b:Nat) (G:1<=b) (y:b<=8) (L:fK d c r x D E):
  AC Tryz.prog 93 [.ptr h 0,gO c r x,.v (.int .i64 (b:Int))] d λF z=>bq z h k (dB o b c).2/\Ext h k d z/\gR (dB o b c).1 F:=by
 refine(ZC d h k o C c D E r x b G y L).mono λF z a=> ?_;unfold dB;cases p:fI b c with
 |none=>rw[p]at a;exact⟨C.mono a.1,Ext.of a.1,aaY,a.2⟩
 |some P=>rw[p]at a;exact⟨a.1,a.2.1,(uU y p).1,E0 y p,a.2.2⟩
theorem yi (D:U) (E e:Nat) (f:ag) (X:bq D E e f) (c:List (List Int)) (h:List R) (q:R) (x:Nat) (n2:1<=x) (n3:x<=8) (g:aB isRow c h) (Y:bJ D 1 q h) (n4:c.length<=100000):
  AC Tryz.prog 52 [dJ E x,q] D λr y=>bq y E e (dB f x (cU c)).2/\Ext E e D y/\gR (dB f x (cU c)).1 r:=by
 refine bc hm M7 aaV ?_;have s: ∀Z,(R.agg Z).cells=Z:=λ_=>rfl;have n5: ∀a b k o j9 T:R,putAt [a,b,k] 0 [o,j9,T]= [o,j9,T]:=λ_ _ _ _ _ _=>rfl;have n9: ∀a b k o:R,putAt [a,b,k] 0 [o]= [o,b,k]:=λ_ _ _ _=>rfl;have a00: ∀a b k o:R,putAt [a,b,k] 1 [o]= [a,o,k]:=λ_ _ _ _=>rfl;have k0: ∀a b k:R,[a,b,k].length=3:=λ_ _ _=>rfl;have a43: ∀a b k:R,List.take 3 [a,b,k]= [a,b,k]:=λ_ _ _=>rfl;have k1:=Y.len;rw[g.len]at k1;refine aa ?_;refine aN λS a01=> ?_;refine aa ?_;refine aN λP i=> ?_;refine aa ?_;refine aN λF V=> ?_;have t:S≠P:=by rintro rfl;rw[U.ai]at i;cases i
 have a02:P≠F:=by rintro rfl;rw[U.ai]at V;cases V
 have a03:S≠F:=by rintro rfl;rw[U.an _ _ t,U.ai]at V;cases V
 have u:D P=none:=by rw[U.an _ _ (a6I t)]at i;exact i
 have a47:D F=none:=by simp_all [U.an,a6I]
 obtain⟨G,W⟩: ∃G:U,G=(D.set S (.cells [.ptr E 0,.v (.int .i64 (x))])).set P (.cells (ab az .nil .nil .nil)):=⟨_,rfl⟩;have k2:D.sub G:=by rw[W];exact U.af (U.af U.a6 a01) u
 have c2:G S=some (.cells [.ptr E 0,.v (.int .i64 (x))]):=by rw[W,U.an _ _ t,U.ai]
 have aM:G P=some (.cells (ab az .nil .nil .nil)):=by rw[W,U.ai]
 have k3:G F=none:=by rw[W];exact V
 have a04:=(aP (N:= .nil) (e5:= .nil) (h6:= .nil) bj).len;refine aj (c9 @s @ch @n9 @k0 @n5 @U.set_set @k1) ?_;rw[<-W]
 let p:R->R:=λa=> .agg [a,.v (.bool true)];have k4: ∀d,aB cT ((c.take d).map λr=>(r,true)) ((h.take d).map p):=by
  have: ∀(c) (h),aB isRow c h->aB cT (c.map λr=>(r,true)) (h.map p):=by
   intro c
   induction c with
   |nil=>intro h z;cases h with
    |nil=>trivial
    |cons=>exact z.elim
   |cons o c ih=>intro h z;cases h with
    |nil=>exact z.elim
    |cons a h=>exact⟨by obtain⟨L,rfl⟩:=z.1;exact⟨L,rfl⟩,ih h z.2⟩
  exact λd=>this _ _ (g.take d)
 have a48: ∀d,((h.take d).map p).length<=100000:=λd=>by rw[a6J,a6C,g.len];omega
 have k5: ∀ {y:U}{k c L},bf (G.set F (.cells k)) y 2 c L->y S=some (.cells [.ptr E 0,.v (.int .i64 (x))])/\y P=some (.cells (ab az .nil .nil .nil))/\y F=some (.cells k):=λz=>⟨z.sub _ _ (by rw[U.an _ _ a03];exact c2),z.sub _ _ (by rw[U.an _ _ a02];exact aM),z.sub _ _ (U.ai _ _ _)⟩;refine cm (λC y=> ∃(d:Nat) (L:Own),d<=c.length/\bf (G.set F (.cells [.v (.int .u8 2),.J ((h.take d).map p) L,.J [] .nil])) y 2 ((h.take d).map p) L/\
   C 2= .ptr S 0/\C 4= .ptr P 0/\C 6= .ptr F 0/\C 10=q/\C 11= .v (.int .i64 c.length)/\C 12= .v (.int .i64 d))
  (λC _=>match C 12 with| .v (.int _ a05)=>c.length - a05.toNat| _=>0) ⟨0,.nil,aaU,?_,?_⟩ ?_
 .rw[show(h.take 0).map p= []from rfl,U.set_set];exact bf.nil U.a6
 .exact aO
 rintro C v ⟨d,L,a52,j,l,m,n,w,A,B⟩;obtain⟨a06,a07,k6⟩:=k5 j;by_cases k7:(d:Int)<c.length
 .have k8:c[d]? =some c[d]:=a6y aaU;generalize c[d]'aaU=r at k8;obtain⟨a,k9,H,rfl⟩:=g.get k8;obtain⟨a56,a08,a09⟩:=(Y.mono (U.au k2 (U.au (U.af U.a6 k3) j.sub))).get d _ k9;have l0:=a09.ld v U.a6 false 1 aaU (by simp[R.cells]);have a10:aL false 1 (R.J (ad r) H).cells= .J (ad r) H:=rfl;rw[a10]at l0;have a11:(h.take (d+1)).map p=(h.take d).map p++ [.agg [.J (ad r) H,.v (.bool true)]]:=by rw[a7C,k9,a7x];rfl
  have a13: ∀a b k:R,aL false 1 ([a,b,k].drop 1)=b:=λ_ _ _=>rfl;have a14: ∀a b o:R,putAt [a,b] 0 [o]= [o,b]:=λ_ _ _=>rfl;have a15: ∀a b o:R,putAt [a,b] 1 [o]= [a,o]:=λ_ _ _=>rfl;have a16: ∀a b:R,[a,b].length=2:=λ_ _=>rfl;have a18: ∀b:Bool,(R.v (.bool b)).cells= [.v (.bool b)]:=λ_=>rfl;have l1: ∀(T) (l2),(R.J T l2).cells= [.J T l2]:=λ_ _=>rfl;refine aj (ml @l @m @n @w @A @B @k7 @a08 @l0 (U.ae k6) @a13 @a14 @a15 @a16 @a18 @l1) ?_;refine dF U.a6 (by simp[aW,R.cells]) λa57 a61 a19=> ?_;refine aa ?_;refine eh (j.mono a19.sub) ((k4 d).cells λ_ _=>cT.cells) (by simp[aW,R.cells]) (by grind) (by grind) λl3 a62 I=> ?_;rw[<-a11]at I|-;obtain⟨a63,l4,a27⟩:=k5 I;refine aj (cd @l @m @n @w @A @B (U.aI a27) @l1 @a00 @k0) ?_;have l5:=I.set (ob:= .cells [.v (.int .u8 2),.J ((h.take (d+1)).map p) l3,.J [] .nil]) (U.ai _ _ _);rw[U.set_set]at l5;exact⟨⟨d+1,l3,aaU,l5,aaV⟩,aaU⟩
 .obtain rfl:d=c.length:=aaU;have a29: ∀a b k,aL true 3 [a,b,k]= .agg [a,b,k]:=λ_ _ _=>rfl;have K:=k4 c.length;rw[a6V]at K;have l6:=U.au k2 (U.au (U.af U.a6 k3) j.sub);have a30:fK v (cU c) (.J ((h.take c.length).map p) L) (.J [] .nil) ((h.take c.length).map p) []:=by
   refine⟨K,trivial,bJ.J (K.cells λ_ _=>cT.cells),bJ.J (by simp[aW]),?_,?_⟩
   .simp only[cU,a6J];exact n4
   .simp[cU]
  refine aj (fA @l @m @n @w @A @B @k7 (U.ae a06) (U.ae k6) @a29 @s) ?_;have a34:=yh v E e f (X.mono l6) (cU c) _ _ _ _ x n2 n3 a30;refine ah a34 ?_;rintro r a65 ⟨a36,l7,l8⟩;have M:=X.cA u;have l4:=l7 _ _ M.1 M.2 a07;obtain⟨l9,N,O,Q,a68,n0,rfl⟩:=l8.shape;have n1:=aP (N:=N) (e5:=O) (h6:=Q) n0;have a38:=n1.len;have a42:putAt (ab az .nil .nil .nil) 0 (ab l9 N O Q)=ab l9 N O Q:=cy bj n0;refine aj (cN @l @m @n @s (U.aI l4) @a42 @a38 @a04 n1.t37) ?_;exact⟨_,U.a6,a36.set M,((Ext.of l6).trans l7).set u,l8⟩
def Ej (a:U) (d x:Nat) (y:ag) (W:bq a d x y) (h:List aq) (D:List R) (E:R) (b:Nat) (v:1<=b) (w:b<=8) (A:aB bB h D) (e:bJ a 37 E D) (B:h.length<=100000):
  AC Tryz.prog 96 [dJ d b,E] a λf g=>bq g d x (dB y b (eo h)).2/\Ext d x a g/\gR (dB y b (eo h)).1 f:=by
 refine bc hm Nw aaV ?_;have i: ∀j,(R.agg j).cells=j:=λ_=>rfl;have H: ∀k c o r:R,putAt [k,c,o] 0 [r]= [r,c,o]:=λ_ _ _ _=>rfl;have I: ∀k c o r:R,putAt [k,c,o] 2 [r]= [k,c,r]:=λ_ _ _ _=>rfl;have K: ∀k c o:R,[k,c,o].length=3:=λ_ _ _=>rfl;have M:=(aP (N:= .nil) (e5:= .nil) (h6:= .nil) bj).len;refine aa ?_;refine aN λl N=> ?_;refine aa ?_;refine aN λz C=> ?_;have m:l≠z:=by rintro rfl;rw[U.ai]at C;cases C
 have F:a z=none:=by rw[U.an _ _ (a6I m)]at C;exact C
 obtain⟨p,G⟩: ∃p:U,p=(a.set l (.cells [.ptr d 0,.v (.int .i64 (b))])).set z (.cells (ab az .nil .nil .nil)):=⟨_,rfl⟩;have L:a.sub p:=by rw[G];exact U.af (U.af U.a6 N) F
 have aM:p z=some (.cells (ab az .nil .nil .nil)):=by rw[G,U.ai]
 refine aj (cN @i @ch @H @I @K e.one @U.an @m @U.ai) ?_;rw[<-G];have O:fK p (eo h) (.J [] .nil) E [] D:=⟨trivial,A,bJ.J (by simp[aW]),e.mono L,by simp[eo],B⟩;refine ah (yh p d x y (W.mono L) (eo h) _ _ _ _ b v w O) ?_;rintro f j9 ⟨Q,n,q⟩;have P:=W.cA F;have X:=n _ _ P.1 P.2 aM;obtain⟨s,S,T,V,k0,t,rfl⟩:=q.shape;have u:=aP (N:=S) (e5:=T) (h6:=V) t;have Y:=u.len;have Z:putAt (ab az .nil .nil .nil) 0 (ab s S T V)=ab s S T V:=cy bj t;refine aj (bx @i (U.aI X) @Z @Y @M u.t37) ?_;exact⟨_,U.a6,Q.set P,((Ext.of L).trans n).set F,q⟩
def yj (a:bY) (w A:List R) (p z:R) (r:U) (P:fK r a p z w A):
  AC Tryz.prog 225 [gO a p z] r λc V=> ∃d,aB isRow (a.rows.map Prod.fst) d/\av r V 1 (flat d) c:=by
 refine bc hm Ra aaV ?_;have S: ∀g,(R.agg g).cells=g:=λ_=>rfl;have B:=P.hd;have k5:=P.kB;refine aj @S ?_;refine aN λT H=> ?_;obtain⟨x,W⟩: ∃x:U,x=r.set T (.cells [.v (.int .u8 (a.kind.toNat)),p,z]):=⟨_,rfl⟩;have i:r.sub x:=by rw[W];exact U.af U.a6 H
 have k6:x T=some (.cells [.v (.int .u8 (a.kind.toNat)),p,z]):=by rw[W,U.ai]
 have I:=P.mc.mono i;refine aj (aE @S @U.ai @B) ?_;rw[show r.set T (.cells (gO a p z).cells)=x from W.symm];refine cm (λk V=> ∃(b:Nat) (c:R) (d:List R),b<=a.rows.length/\aB isRow ((a.rows.take b).map Prod.fst) d/\av x V 1 (flat d) c/\k 1= .ptr T 0/\k 3=c/\k 7=p/\k 8= .v (.int .i64 a.rows.length)/\k 9= .v (.int .i64 b))
  (λk _=>match k 9 with| .v (.int _ K)=>a.rows.length - K.toNat| _=>0) ⟨0,.J [] .nil,[],aaU,trivial,av.nil U.a6,?_⟩ ?_
 .exact kv
 rintro k M ⟨b,c,d,k7,C,e,D,E,F,G,L⟩;by_cases j:(b:Int)<a.rows.length
 .have f:a.rows[b]? =some a.rows[b]:=a6y aaU;have l:a.rows.take (b+1)=a.rows.take b++ [a.rows[b]]:=by rw[a7C,f];rfl
  generalize a.rows[b]'aaU=h at f l;obtain⟨y,N,o,rfl⟩:=P.rows.get f;obtain⟨k8,O,Q⟩:=I.get b _ N;have m:=Q.ld M e.1 true 2 aaU (by simp[R.cells]);have X:aL true 2 (R.agg [.J (ad h.1) o,.v (.bool h.2)]).cells= .agg [.J (ad h.1) o,.v (.bool h.2)]:=rfl;have n: ∀c y q s:R,putAt [c,y] 0 [q,s]= [q,s]:=λ_ _ _ _=>rfl;have t: ∀c y:R,[c,y].length=2:=λ_ _=>rfl;have Y: ∀c y:R,aL false 1 [c,y]=c:=λ_ _=>rfl;rw[X]at m;refine aj (fA @D @E @F @G @L @j @O @m @S @n @t) ?_;refine aN λk9 Z=> ?_;have j9:=av.mono e (U.af (X:= .cells [.J (ad h.1) o,.v (.bool h.2)]) U.a6 Z);refine aj (fA @D @E @F @G @L @S @n @t @Y @U.set_set @U.ai) ?_;refine eK (by simp[aW,R.cells]) aaV λl0 k0=> ?_;have k1:=av.mono j9 (U.af (X:= .cells (flat [R.J (ad h.1) o])) U.a6 k0);have k2:aB isRow ((a.rows.take b).map Prod.fst++ [h.1]) (d++ [R.J (ad h.1) o]):=C.snoc ⟨_,rfl⟩;have u:(flat d).length=b:=by rw[cR (C.cells λ_ _=>isRow.cells),C.len];simp;omega
  refine aj (bh @D @E @F @G @L) ?_;refine fb k1 aaU (nC rfl) rfl (by rw[u];simp[flat,R.cells];omega) (by rw[u];simp[flat,R.cells];omega) λk3 l1 v=> ?_;have k4:flat d++flat [R.J (ad h.1) o]=flat (d++ [R.J (ad h.1) o]):=by simp[flat]
  rw[k4]at v;refine aj (bh @D @E @F @G @L) ?_;refine⟨⟨b+1,k3,_,aaU,?_,v,aaV⟩,aaU⟩;rw[l,a7x];exact k2
 .obtain rfl:b=a.rows.length:=aaU;rw[a6V]at C;refine aj (bx @D @E @F @G @L @j) ?_;exact⟨_,U.a6,d,C,e.base i⟩
def iP (b:ag) (c:Nat) (d:aq):Option bY:=
 match dA b c d with
 |none=>none
 |some a=>if a.kind=2\/a.kind=3 then some a else none
theorem yk (b:U) (T I:Nat) (V:ag) (k1:bq b T I V) (o:aq) (W e f:Own) (K:o.sum.length=32) (k2:o.cv) (p:Nat) (k3:1<=p) (k4:p<=8):
  AC Tryz.prog 223 [dJ T p,.agg (ab o W e f)] b λq y=>b.sub y/\match iP V p o with
   |none=>q= .aJ [y9,.v (.int .i64 21)]
   |some a=> ∃d h,q= .aJ [gO a d h,.v (.int .i64 0)]/\gP b y a d h:=by
 refine bc hm R6 aaV ?_;have c: ∀M,(R.agg M).cells=M:=λ_=>rfl;have z: ∀C D E d h N:R,putAt [C,D,E] 0 [d,h,N]= [d,h,N]:=λ_ _ _ _ _ _=>rfl;have L: ∀C D E,aL true 3 [C,D,E]= .agg [C,D,E]:=λ_ _ _=>rfl;have F: ∀C D E:R,[C,D,E].length=3:=λ_ _ _=>rfl;have O:=aP (N:=W) (e5:=e) (h6:=f) K;have s:=O.len;refine aj @c ?_;refine aN λt l3=> ?_;refine aj (c2 @c @s) ?_;refine aN λg i=> ?_;have u:t≠g:=by rintro rfl;rw[U.ai]at i;cases i
 have l4:b g=none:=by rw[U.an _ _ (a6I u)]at i;exact i
 refine aj (c2 @c @s) ?_;refine aN λk j=> ?_;have k5:g≠k:=by rintro rfl;rw[U.ai]at j;cases j
 have k6:t≠k:=by rintro rfl;rw[U.an _ _ u,U.ai]at j;cases j
 have k7:b k=none:=by simp_all [U.an,a6I]
 obtain⟨P,Q⟩: ∃P:U,P=((b.set t (.cells [.ptr T 0,.v (.int .i64 (p))])).set g (.cells (ab o W e f))).set k (.cells [.v (.int .u8 0),.J [] .nil,.J [] .nil]):=⟨_,rfl⟩;have v:b.sub P:=by grind[U.af,U.a6]
 have aM:P k=some (.cells [.v (.int .u8 0),.J [] .nil,.J [] .nil]):=by rw[Q,U.ai]
 have l: ∀(y) (X),b.sub y->b.sub (y.set k X):=λy X w=>U.af w k7;refine aj (bt @c @s @U.an @u @k6 @k5 @U.ai O.t37) ?_;rw[<-Q];refine ah (uV P T I V (k1.mono v) o W e f K k2 p k3 k4) ?_;rintro q l5 ⟨Y,m⟩;have k8:=U.au v Y;have G:=Y _ _ aM;unfold iP;cases Z:dA V p o with
 |none=>
  rw[Z]at m;obtain rfl:=m;refine aj (aE @c @z @F) ?_;refine aN λA r=> ?_;have x:k≠A:=by rintro rfl;rw[G]at r;cases r
  have S:=a6I x;refine aj (cN @c @z @F @L @U.set_set @U.an @x @S (U.aI G)) ?_;grind[U.a6,U.au,U.af]
 |some a=>
  rw[Z]at m;obtain⟨d,h,rfl,k9⟩:=m;simp -dsimp -implicitDefEqProofs (disch:=first|omega|assumption|(simp only[bd,Nat.reduceAdd];try omega)) only[go_sem,simprocAttr,-List.reduceReplicate,c,z,F,L];refine aN λA r=> ?_;have x:k≠A:=by rintro rfl;rw[G]at r;cases r
  have S:=a6I x;have l0:=(k9.mono (U.af (X:= .cells [.v (.int .u8 (a.kind.toNat)),d,h]) U.a6 r)).set (ob:= .cells [.v (.int .u8 (a.kind.toNat)),d,h]) aM;have l6:=l0.base (l _ _ v);have B:=U.au k8 (U.af (X:= .cells [.v (.int .u8 (a.kind.toNat)),d,h]) U.a6 r);have l1:=iN a.kind 2 aaU;have l2:=iN a.kind 3 aaU;simp only[a9C]at l1 l2;simp only;by_cases j9:a.kind=2
  .have n:((a.kind.toNat:Int)=2)=True:=by rw[j9];simp
   refine aj (fA @c @z @F @L @U.set_set @U.ai @U.an @x @S (U.aI G) @n) ?_;refine⟨_,U.a6,l _ _ B,?_⟩;grind
  .have n: ¬(a.kind.toNat:Int)=2:=λw=>j9 (by simp_all);by_cases k0:a.kind=3
   .have H:((a.kind.toNat:Int)=3)=True:=by rw[k0];simp
    refine aj (gk @c @z @F @L @U.set_set @U.ai @U.an @x @S (U.aI G) @n @H) ?_;refine⟨_,U.a6,l _ _ B,?_⟩;grind
   .have H: ¬(a.kind.toNat:Int)=3:=λw=>k0 (by simp_all);refine aj (gk @c @z @F @L @U.set_set @U.ai @U.an @x @S (U.aI G) @n @H) ?_;refine⟨_,U.a6,l _ _ B,?_⟩;simp_all
def yl (k:bY) (L P:List R) (d h:R) (o:U) (S:fK o k d h L P):
  AC Tryz.prog 233 [gO k d h] o λi j=> ∃a r,i= .agg [.v (.bool (decide (k.kind=2))),a,h]/\aB isRow (k.rows.map Prod.fst) r/\av o j 1 (flat r) a:=by
 refine bc hm Rp aaV ?_;have x: ∀T,(R.agg T).cells=T:=λ_=>rfl;have V: ∀a b c,aL true 3 [a,b,c]= .agg [a,b,c]:=λ_ _ _=>rfl;have l: ∀a b c:R,[a,b,c].length=3:=λ_ _ _=>rfl;have m: ∀a b c d h W:R,putAt [a,b,c] 0 [d,h,W]= [d,h,W]:=λ_ _ _ _ _ _=>rfl;have n: ∀a b c d:R,putAt [a,b,c] 0 [d]= [d,b,c]:=λ_ _ _ _=>rfl;have q: ∀a b c d:R,putAt [a,b,c] 1 [d]= [a,d,c]:=λ_ _ _ _=>rfl;have s: ∀a b c d:R,putAt [a,b,c] 2 [d]= [a,b,d]:=λ_ _ _ _=>rfl;have t: ∀b:Bool,(R.v (.bool b)).cells= [.v (.bool b)]:=λ_=>rfl;have u: ∀a b c:R,aL false 1 ([a,b,c].drop 2)=c:=λ_ _ _=>rfl;have e: ∀a b c:R,List.take 3 [a,b,c]= [a,b,c]:=λ_ _ _=>rfl;refine aj @x ?_;refine aN λE v=> ?_;refine aj @x ?_;refine aN λy z=> ?_;have F:E≠y:=by rintro rfl;rw[U.ai]at z;cases z
 have f:o y=none:=by rw[U.an _ _ (a6I F)]at z;exact z
 obtain⟨p,C⟩: ∃p:U,p=(o.set E (.cells [.v (.int .u8 (k.kind.toNat)),d,h])).set y (.cells [.v (.bool false),.J [] .nil,.J [] .nil]):=⟨_,rfl⟩;have g:o.sub p:=by rw[C];exact U.af (U.af U.a6 v) f
 have w:p E=some (.cells [.v (.int .u8 (k.kind.toNat)),d,h]):=by rw[C,U.an _ _ F,U.ai]
 have c2:p y=some (.cells [.v (.bool false),.J [] .nil,.J [] .nil]):=by rw[C,U.ai]
 have G:=iN k.kind 2 aaU;simp only[a9C]at G;have A:UInt8.ofNat 2=2:=rfl;rw[A]at G;refine aj (bx @x @U.an @F @U.ai @V @e) ?_;rw[<-C];refine ah (yj k L P d h p (S.mono g)) ?_;rintro a N ⟨r,B,D⟩;have H:=D.1 _ _ w;have I:=D.1 _ _ c2;have K:=fJ D;have M:=S.gJ.one;refine aj (py @x (U.ae H) (U.aI I) @V @e @u @t @K @M @n @q @s @l @m @G) ?_;refine⟨_,U.a6,a,r,rfl,B,?_⟩;exact(jP D c2).base (U.af g f)
theorem ZQ (h:R) (c d:R) (a b:Nat) (E:c.cells= [c]) (F:d.cells= [d]) (G:h.cells= [h]) (r:fa c=some (.v (.int .i64 (a:Int)))) (x:fa d=some (.v (.int .i64 (b:Int)))) (L:a<=1000000000000) (P:b<=1000000000000) (k:U):
  AC Tryz.prog 283 [.agg [h,c,d]] k λy z=>z=k/\y= .v (.bool (decide (a+b<2))):=by
 refine bc hm SG aaV ?_;have o: ∀p,(R.agg p).cells=p:=λ_=>rfl;refine aj @o ?_;refine aN λS C=> ?_;refine aj (aE @o @r @x) ?_;have D:decide ((a:Int)+b<2)=decide (a+b<2):=by grind
 exact⟨k,U.af U.a6 C,rfl,by rw[D]⟩
def mz (a:ag) (b:Nat) (c:Bool) (d:List (List Int)) (h:List aq):Except Int aq×ag:=if c=true then dB a b (cU d)else dB a b (eo h)
theorem Ek (a:U) (b d:Nat) (E:ag) (s:bq a b d E) (F:Bool) (G:List (List Int)) (t:List R) (g:R) (L:List aq) (u:List R) (i:R) (c:Nat) (K:1<=c) (M:c<=8) (k3:aB isRow G t) (k4:bJ a 1 g t) (k5:G.length<=100000) (k6:aB bB L u) (k7:bJ a 37 i u) (k8:L.length<=100000):
  AC Tryz.prog 173 [dJ b c,.agg [.v (.bool F),g,i]] a λy N=>bq N b d (mz E c F G L).2/\Ext b d a N/\gR (mz E c F G L).1 y:=by
 refine bc hm PJ aaV ?_;have h: ∀O,(R.agg O).cells=O:=λ_=>rfl;have Q:=(aP (N:= .nil) (e5:= .nil) (h6:= .nil) bj).len;have X: ∀P S:R,List.take 2 [P,S]= [P,S]:=λ_ _=>rfl;have Y: ∀P S,aL true 2 [P,S]= .agg [P,S]:=λ_ _=>rfl;refine aj @h ?_;refine aN λv l1=> ?_;refine aj @h ?_;refine aN λj l=> ?_;have m:v≠j:=by rintro rfl;rw[U.ai]at l;cases l
 have l2:a j=none:=by rw[U.an _ _ (a6I m)]at l;exact l
 refine aj (c2 @h @ch) ?_;refine aN λz n=> ?_;have Z:j≠z:=by rintro rfl;rw[U.ai]at n;cases n
 have j9:v≠z:=by rintro rfl;rw[U.an _ _ m,U.ai]at n;cases n
 have w:a z=none:=by simp_all [U.an,a6I]
 obtain⟨k,A⟩: ∃k:U,k=((a.set v (.cells [.ptr b 0,.v (.int .i64 (c))])).set j (.cells [.v (.bool F),g,i])).set z (.cells (ab az .nil .nil .nil)):=⟨_,rfl⟩;have C:a.sub k:=by grind[U.af,U.a6]
 have aM:k z=some (.cells (ab az .nil .nil .nil)):=by rw[A,U.ai]
 have q:=s.cA w;unfold mz;have k0: ∀(k1) (k2) (y) (D),bq D b d k2->Ext b d k D->gR k1 y->D z=some (.cells (ab az .nil .nil .nil)):=λk1 k2 y D _ k9 _=>k9 _ _ q.1 q.2 aM;cases F with
 |true=>refine aj (cN @h @ch @U.an @m @j9 @Z @U.ai @X @Y) ?_;rw[<-A];refine ah (yi k b d E (s.mono C) G t g c K M k3 (k4.mono C) k5) ?_;rintro y D ⟨T,V,o⟩;have B:=k0 _ _ _ _ T V o;obtain⟨W,p,r,x,l0,e,rfl⟩:=o.shape;have f:=aP (N:=p) (e5:=r) (h6:=x) e;have H:=f.len;have I:putAt (ab az .nil .nil .nil) 0 (ab W p r x)=ab W p r x:=cy bj e;refine aj (bx @h (U.aI B) @I @H @Q f.t37) ?_;exact⟨_,U.a6,T.set q,((Ext.of C).trans V).set w,o⟩
 |false=>refine aj (cN @h @ch @U.an @m @j9 @Z @U.ai @X @Y) ?_;rw[<-A];refine ah (Ej k b d E (s.mono C) L u i c K M k6 (k7.mono C) k8) ?_;rintro y D ⟨T,V,o⟩;have B:=k0 _ _ _ _ T V o;obtain⟨W,p,r,x,l0,e,rfl⟩:=o.shape;have f:=aP (N:=p) (e5:=r) (h6:=x) e;have H:=f.len;have I:putAt (ab az .nil .nil .nil) 0 (ab W p r x)=ab W p r x:=cy bj e;refine aj (bx @h (U.aI B) @I @H @Q f.t37) ?_;exact⟨_,U.a6,T.set q,((Ext.of C).trans V).set w,o⟩
abbrev hG (a:List Int) (b:bY):Nat:=a1.cQ bC a (b.kids.map (·.key))
variable{O:List (List Int)}{q b8:List Int}
def ZR {a:List Int}:a1.cQ bC q (a::b8::O)=if bC q b8=true then 0 else a1.cQ bC q (b8::O)+1:=rfl
theorem El (a:bY) (B H:List R) (r x:R) (c:List Int) (P:Own) (d:U) (z:fK d a r x B H):
  AC Tryz.prog 228 [gO a r x,.J (ad c) P] d λI S=>S=d/\I= .v (.int .i64 (hG c a:Int)):=by
 refine bc hm Rh aaV ?_;have V: ∀W,(R.agg W).cells=W:=λ_=>rfl;have e:=z.sP;have k4:=z.hZ;refine aj @V ?_;refine aN λC K=> ?_;obtain⟨h,T⟩: ∃h:U,h=d.set C (.cells [.v (.int .u8 (a.kind.toNat)),r,x]):=⟨_,rfl⟩;have M:d.sub h:=by rw[T];exact U.af U.a6 K
 have c2:h C=some (.cells [.v (.int .u8 (a.kind.toNat)),r,x]):=by rw[T,U.ai]
 have N:=z.gJ.mono M;refine aj @V ?_;rw[show d.set C (.cells (gO a r x).cells)=h from T.symm];refine cm (λk S=> ∃b:Nat,S=h/\hG c a=b+a1.cQ bC c ((a.kids.map (·.key)).drop b)/\b<=a.kids.length/\k 1= .J (ad c) P/\k 2= .ptr C 0/\k 5= .v (.int .i64 b))
  (λk _=>match k 5 with| .v (.int _ O)=>a.kids.length - O.toNat| _=>0) ⟨0,rfl,aaV,aaU,?_⟩ ?_
 .exact kv
 rintro k f ⟨b,rfl,y,k5,D,E,F⟩;have g: ∀i Q j:R,aL false 1 ([i,Q,j].drop 2)=j:=λ_ _ _=>rfl;by_cases l:(b:Int)+1<a.kids.length
 .have m:a.kids[b+1]? =some a.kids[b+1]:=a6y aaU;have n:(a.kids.map (·.key)).drop b=(a.kids[b]'aaU).key::(a.kids[b+1]'aaU).key::(a.kids.map (·.key)).drop (b+2):=by grind[List.drop_eq_getElem_cons,List.length_map]
  have q:(a.kids.map (·.key)).drop (b+1)=(a.kids[b+1]'aaU).key::(a.kids.map (·.key)).drop (b+2):=by rw[a6Y (by rw[a6J];omega)];simp
  rw[n,ZR,<-q]at y;clear n q;generalize a.kids[b+1]'aaU=o at m y;obtain⟨i,X,Y,k6,G,L,p,rfl⟩:=z.kids.get m;obtain⟨k7,s,t⟩:=N.get (b+1) _ X;have u:=aP (N:=G) (e5:=L) (h6:=p) Y;have Z:(R.agg (ab o G L p)).cells=ab o G L p:=rfl;rw[Z]at t;obtain⟨k8,j9,v⟩:=t.lb f U.a6 36 false 1 aaU (by rw[u.len];omega);have k0:aL false 1 ((ab o G L p).drop 36)= .J (ad o.key) p:=by rw[u.d36];rfl
  rw[k0]at v;have k1:((b+1:Nat))=(b:Int)+1:=aaU;rw[k1]at s;refine aj (cd @D @E @F (U.ae c2) @g @e @l @s @j9 @v) ?_;refine ah (ya c o.key P p _) ?_;rintro _ f ⟨rfl,rfl⟩;cases w:bC c o.key with
  |true=>rw[if_pos w]at y;refine aj (aM @D @E @F @a7o) ?_;simp_all
  |false=>rw[if_neg (by simp[w])]at y;refine aj (aM @D @E @F @a7u) ?_;grind
 .have k2:a1.cQ bC c ((a.kids.map (·.key)).drop b)=0:=by
   have A:((a.kids.map (·.key)).drop b).length<=1:=by grind
   generalize (a.kids.map (·.key)).drop b=k3 at A
   match k3,A with
   | [],_=>rfl
   | [_],_=>rfl
  rw[k2]at y;refine aj (c9 @D @E @F (U.ae c2) @g @e @l) ?_;simp_all
def mA (c:List (List Int)) (d:List Int):Nat->Nat->Nat->Nat
 |0,a,_=>a
 |h+1,a,b=>if a<b then(match c[(a+b)/2]? with
  |some k=>if kC k d<0 then mA c d h ((a+b)/2+1) b else mA c d h a ((a+b)/2)
  |none=>a)else a
def eT (a:List (List Int)) (b:List Int):Nat:=mA a b a.length 0 a.length
def kE (a:List (List Int)) (b:List Int):Bool:=match a[eT a b]? with|some c=>decide (kC c b=0)|none=>false
theorem Em (b:List (List Int)) (n:List R) (V:R) (d:List Int) (L:Own) (P:U) (W:aB isRow b n) (e:bJ P 1 V n) (N:b.length<=1000000000000):
  AC Tryz.prog 224 [V,.J (ad d) L,.bG 47 [] []] P λh f=>f=P/\eT b d<=b.length/\h= .aJ [.v (.int .i64 (eT b d:Int)),.v (.bool (kE b d))]:=by
 refine bc hm R8 aaV ?_;have q:=e.len;rw[W.len]at q;refine aj @q ?_;have s:fu Tryz.prog 47=true:=by rfl
 refine cm (λk f=> ∃(r a c:Nat),f=P/\eT b d=mA b d r a c/\a<=c/\c<=b.length/\c - a<=r/\k 0=V/\k 1= .J (ad d) L/\k 2= .bG 47 [] []/\k 8= .v (.int .i64 b.length)/\k 9= .v (.int .i64 a)/\k 10= .v (.int .i64 c))
  (λk _=>match k 9,k 10 with| .v (.int _ a),.v (.int _ c)=>(c - a).toNat| _,_=>0) ⟨b.length,0,b.length,rfl,rfl,aaU,aaU,aaU,?_⟩ ?_
 .exact kv
 rintro k S ⟨r,a,c,rfl,x,O,Q,X,y,z,C,D,E,F⟩;by_cases g:(a)<(c:Int)
 .obtain⟨Y,rfl⟩: ∃v,r=v+1:=⟨r - 1,aaU⟩;have w:a<c:=aaU;have t:(a+c)/2<b.length:=aaU;have o:=a6y t;rw[mA,if_pos w,o]at x;simp only at x;generalize b[(a+c)/2]'t=h at o x;obtain⟨A,i,p,rfl⟩:=W.get o;obtain⟨B,j,l⟩:=e.get _ _ i;have G:=l.ld S U.a6 false 1 aaU (by simp[R.cells]);have m:aL false 1 (R.J (ad h) p).cells= .J (ad h) p:=rfl;rw[m]at G;have H:IntKind.u64.wrap ((a)+c)=((a+c:Nat)):=by rw[wrap_u64 aaU aaU];omega
  have I:br .shr (.int .u64 ((a+c:Nat))) (.int .u64 1)=some (.int .u64 (((a+c)/2:Nat))):=by rw[sk _ _ _ aaU aaU];rfl
  have K:IntKind.i64.wrap (((a+c)/2:Nat))=(((a+c)/2:Nat)):=wrap_i64 aaU aaU;generalize Z:(a+c)/2=j9 at*;refine aj (gk @y @z @C @D @E @F @g @H @I @K @j @G) ?_;refine eL s (yb h d p L _) ?_;rintro _ S ⟨rfl,rfl⟩;by_cases T:kC h d<0
  .rw[if_pos T]at x;refine aj (c9 @y @z @C @D @E @F @T) ?_;grind
  .rw[if_neg T]at x;refine aj (c9 @y @z @C @D @E @F @T) ?_;grind
 .obtain rfl:a=c:=aaU;have M:eT b d=a:=by rw[x];cases r<;>simp[mA]
  unfold kE;rw[M];by_cases u:(a:Int)<b.length
  .have o:b[a]? =some b[a]:=a6y aaU;rw[o];generalize b[a]'aaU=h at o;obtain⟨A,i,p,rfl⟩:=W.get o;obtain⟨B,j,l⟩:=e.get _ _ i;have G:=l.ld S U.a6 false 1 aaU (by simp[R.cells]);have m:aL false 1 (R.J (ad h) p).cells= .J (ad h) p:=rfl;rw[m]at G;refine aj (cd @y @z @C @D @E @F @g @u @j @G) ?_;refine eL s (yb h d p L _) ?_;rintro _ S ⟨rfl,rfl⟩;refine aj (bx @y @z @C @D @E @F) ?_;exact⟨_,U.a6,rfl,aaU⟩
  .have o:b[a]? =none:=aaB aaU;rw[o];refine aj (bt @y @z @C @D @E @F @g @u) ?_;exact⟨_,U.a6,rfl,aaU⟩
def dn (d h:U) (b c:Nat) (k:ag) (o:Nat) (p:List R) (r:R):Prop:= ∃a,av a h o p r/\bq a b c k/\Ext b c d a
theorem dn.nil {a:U}{b c h:Nat}{d:ag} (k:bq a b c d):dn a a b c d h [] (.J [] .nil):=⟨a,av.nil U.a6,k,Ext.refl⟩
def dn.fO (a:dn s f e i H v g n):bq f e i H:=by obtain⟨d,b,c,_⟩:=a;exact c.mono b.1
def dn.ext (a:dn f s e i H v g n):Ext e i f s:=by obtain⟨d,b,_,c⟩:=a;exact c.trans (Ext.of b.1)
theorem dn.of {s:U}{l lM:Nat} (a:av f s e g n) (b:bq f l lM H) (c:Ext l lM e0 f):dn e0 s l lM H e g n:=⟨f,a,b,c⟩
def dn.mono {b c d:U}{h k:Nat}{o:ag}{p:Nat}{r:List R}{a:R} (x:dn b c h k o p r a) (y:c.sub d):dn b d h k o p r a:=by obtain⟨z,C,D⟩:=x;exact⟨z,C.mono y,D⟩
theorem dn.base (a:dn f e0 e i H v g n) (b:Ext e i s f):dn s e0 e i H v g n:=by obtain⟨c,d,h,k⟩:=a;exact⟨c,d,h,b.trans k⟩
theorem dn.step {r x h:U}{a b:Nat}{S y:ag}{z:Nat}{C:List R}{D:R} (T:dn r x a b S z C D) (E:Ext a b x h) (F:bq h a b y):dn r h a b y z C D:=by
 obtain⟨V,⟨W,o⟩,e,f⟩:=T;have g:=F.ne;refine⟨λc=>if c=a then h a else if c=b then h b else V c,⟨λc i d=> ?_,?_⟩,F.other aaV (by simp[a6I g]),λc i G L d=> ?_⟩
 .by_cases k:c=a
  .subst k;simpa using d
  .by_cases p:c=b
   .subst p;simpa[k] using d
   .simp only[k,p,if_false]at d;exact E _ _ k p (W _ _ d)
 .rcases o with o|⟨j,l,m,n,q,s,t,u⟩
  .exact .inl o
  .have P:=e.cA s;exact .inr ⟨j,l,m,n,q,by grind,E _ _ P.1 P.2 t,u⟩
 .simp only[G,L,if_false];exact f _ _ G L d
theorem ym (k:e≠1): ∀ {a:List R},(∀c∈a,∃b,c= .agg b/\b.length=e)->er e a.length (flat a)=a:=by
 intro a d;have o:aW e a:=λc p=>by obtain⟨b,rfl,r⟩:=d c p;exact r
 unfold er;rw[if_neg k];refine aa6 λx=> ?_;rw[a7d];by_cases aS:x<a.length
 .rw[a8P aS];have h:=a6y aS;have:=DP o h;obtain⟨b,y,_⟩:=d _ (a6Z aS);rw[h,a7F,this,y];rfl
 simp_all
theorem En {h:List aq} (a:aB bB h g): ∀b∈g,∃c,b= .agg c/\c.length=37:=by intro b k;obtain⟨o,p,rfl⟩:=a7l k;have z:=a.len;obtain⟨C,d,r⟩:=a.get (a6y (i:=o) aaU);rw[a6y p]at d;obtain rfl:=a6x d;obtain⟨x,_,D,E,F,y⟩:=r;exact⟨_,y,(aP x).len⟩
def dn.view (d:dn f s e i H v g n): ∃b a,g.length=b*v/\View s n a (.J (er v b g) .any)/\bq a e i H/\Ext e i f a:=by obtain⟨x,h,k,o⟩:=d;obtain⟨b,a,p,c,r⟩:=View.dv h;exact⟨b,a,p,r,k.mono c,o.trans (Ext.of c)⟩
theorem dn.ta {b:List aq} (c:dn f s e i H 37 (flat g) n) (d:aB bB b g): ∃a,View s n a (.J g .any)/\bq a e i H/\Ext e i f a:=by obtain⟨k,a,h,o,p⟩:=c.view;rw[cR (d.cells λ_ _=>bB.cells)]at h;grind[ym,En]
theorem av.ta {b:List aq} (c:av f s 37 (flat g) n) (d:aB bB b g): ∃a,View s n a (.J g .any)/\f.sub a:=by obtain⟨k,a,h,o,p⟩:=View.dv c;rw[cR (d.cells λ_ _=>bB.cells)]at h;grind[ym,En]
theorem nE (a:aB isRow O g):flat g=g:=by
 induction O generalizing g with
 |nil=>cases g with
  |nil=>rfl
  |cons=>exact a.elim
 |cons b O ih=>cases g with
  |nil=>rfl
  |cons c g=>obtain⟨d,rfl⟩:=a.1;have:=ih a.2;simp only[flat,a7a]at this|-;rw[this];rfl
theorem av.Eo (b:av f s 1 (flat g) n) (c:aB isRow O g): ∃a,View s n a (.J g .any)/\f.sub a:=by grind[View.dv,nE,mm,List.take_of_length_le]
def dx {c:Type} (d:List c->bY) (h:Nat):ag->List (List c)->List aq->Except Int (List aq)×ag
 |a,[],acc=>(.ok acc,a)
 |a,k::gs,acc=>
  match dB a h (d k)with
  |(.error o,b)=>(.error o,b)
  |(.ok p,b)=>dx d h b gs (acc++ [p])
def Ep (d:Except Int (List aq)) (a:R):Prop:=
 match d with
 | .error b=>b≠0/\a= .aJ [.J [] .nil,.v (.int .i64 b)]
 | .ok bF=> ∃c h,aB bB bF c/\a= .aJ [.J c h,.v (.int .i64 0)]
variable{b0:Type}
def hh (b:b0->R->Prop) (c:List b0) (d:R):Prop:= ∃a h,d= .J a h/\aB b c a
theorem hh.cells {a:Type}{c:a->R->Prop}{d:List a}{b:R} (h:hh c d b):b.cells.length=1:=by obtain⟨_,_,rfl,_⟩:=h;rfl
theorem aB.yn {b:b0->R->Prop}{a:List b0} (c:aB b a []):a= []:=by cases a with|nil=>rfl|cons=>exact c.elim
def Er (a:0<e) (c:i<=100000):i/e+(if 0<i%e then 1 else 0)<=i:=by
 have d:=a9x i e;by_cases b:0<i%e
 .rw[if_pos b];have:i/e<=e*(i/e):=aat _ a;omega
 .rw[if_neg b];have:i/e<=e*(i/e):=aat _ a;omega
theorem yo (d:List (List Int)) (a:List R) (h:Own) (c:U) (k:aB isRow d a) (F:d.length<=100000):
  AC Tryz.prog 45 [.J a h] c λp r=> ∃o,bf c r 1 a o/\p= .J a o:=by
 refine nm λG=> ?_;have x:h= .nil->a= []:=λy=>by subst y;simp_all
 refine bc hm LP aaV ?_;simp -dsimp -implicitDefEqProofs (disch:=first|omega|assumption|(simp only[bd,Nat.reduceAdd];try omega)) only[go_sem,simprocAttr,-List.reduceReplicate,↓oo];refine oq (λb=>by rw[x b]) (λb=> ?_) ?_
 .have z:a= []:=by trivial
  subst z;refine aj @a7u ?_;exact⟨c,U.a6,.nil,bf.nil U.a6,rfl⟩
 .refine bT ?_;refine dF U.a6 (by simp[aW]) λL P C=> ?_;refine bT ?_;have S:=k.len;refine eh C (λ_ b=>by cases b) (k.cells λ_ _=>isRow.cells) (by rw[a6G];omega) (by rw[a6G];omega) λD E T=> ?_;refine aj @a6T.{0} ?_;exact⟨E,U.a6,D,by trivial,rfl⟩
theorem Es (L:List (List Int)) (S:List R) (u:Own) (c:Nat) (T:U) (M:aB isRow L S) (N:L.length<=100000) (k4:c<=100000):
  AC Tryz.prog 50 [.J S u,.v (.int .i64 (c:Int))] T λO V=>T.sub V/\ ∃gs Q,O= .J gs Q/\aB (hh isRow) (a1.ew c L) gs:=by
 refine bc hm M3 aaV ?_;refine bT ?_;refine cm (λz V=> ∃(d:Nat) (b:List (List Int)) (h:List R) (E:Own) (gs:List R) (P:Own) (F:List (List (List Int))),d<=c/\F++a1.ew (c - d) b=a1.ew c L/\aB isRow b h/\b.length<=100000/\F.length=d/\aB (hh isRow) F gs/\bf T V 1 gs P/\
   z 0= .J h E/\z 1= .v (.int .i64 c)/\z 5= .J gs P/\z 8= .v (.int .i64 c)/\z 9= .v (.int .i64 d))
  (λz _=>match z 9 with| .v (.int _ X)=>c - X.toNat| _=>0) ⟨0,L,S,u,[],.nil,[],aaU,rfl,M,N,rfl,trivial,bf.nil U.a6,?_⟩ ?_
 .exact kv
 rintro z k5 ⟨d,b,h,E,gs,P,F,k6,C,k,Y,v,D,W,o,p,r,x,y⟩;by_cases e:(d)<(c:Int)
 .have w:=k.len;have Z:=Er (e:=c - d) aaU Y;have A:(c) -(d)=((c - d:Nat):Int):=aaU;rw[show c - d=(c -(d+1))+1 by omega,a1.ew]at C;rw[show c -(d+1)+1=c - d by omega]at C;generalize k7:c - d=G at*;have B: ¬(G:Int)=0:=aaU;have k8:=a9y b.length G;have H:(b.length:Int).tdiv (G:Int)=((b.length/G:Nat)):=rfl;have I:(b.length:Int).tmod (G:Int)=((b.length%G:Nat)):=rfl;obtain⟨a,f⟩: ∃a,a=b.length/G+(if 0<b.length%G then 1 else 0):=⟨_,rfl⟩;rw[<-f]at Z C;by_cases K:0<b.length%G
  .have g:((0)<((b.length%G:Nat):Int))=True:=eq_true aaU;have i:((b.length/G:Nat))+1=(a:Int):=by rw[f,if_pos K];omega
   have j:dO 1 (.J h E) none (some (.v (.int .i64 (a))))=some (.J (h.take a) .any):=o9 aaU aaU (k.cells λ_ _=>isRow.cells);have l:dO 1 (.J h E) (some (.v (.int .i64 (a)))) none=some (.J (h.drop a) .any):=qO aaU aaU (k.cells λ_ _=>isRow.cells);refine aj (gl @o @p @r @x @y @e @w @A @H @I @B @g @i @j) ?_;refine ah (yo (b.take a) (h.take a) .any _ (k.take a) (by rw[a6C];omega)) ?_;rintro _ j9 ⟨m,n,rfl⟩;refine aj (bh @o @p @r @x @y) ?_;refine dF U.a6 (by simp[aW,R.cells]) λk0 k1 q=> ?_;refine aj (bh @o @p @r @x @y) ?_;have k2:=D.len;refine eh (W.mono (U.au n.sub q.sub)) (D.cells λ_ _=>hh.cells) (by simp[aW,R.cells]) (by grind) (by grind) λs k3 t=> ?_;refine aj (bx @o @p @r @x @y @l) ?_;refine⟨⟨d+1,b.drop a,h.drop a,.any,gs++ [.J (h.take a) m],s,F++ [b.take a],aaU,?_,k.drop a,by rw[a6R];omega,by simp[v],D.snoc ⟨_,_,rfl,k.take a⟩,t,aaV⟩,aaU⟩;rw[<-C,a6N];rfl
  .have g:((0)<((b.length%G:Nat):Int))=False:=eq_false aaU;have i:((b.length/G:Nat))=(a:Int):=by rw[f,if_neg K];omega
   have j:dO 1 (.J h E) none (some (.v (.int .i64 (a))))=some (.J (h.take a) .any):=o9 aaU aaU (k.cells λ_ _=>isRow.cells);have l:dO 1 (.J h E) (some (.v (.int .i64 (a)))) none=some (.J (h.drop a) .any):=qO aaU aaU (k.cells λ_ _=>isRow.cells);refine aj (gl @o @p @r @x @y @e @w @A @H @I @B @g @i @j) ?_;refine ah (yo (b.take a) (h.take a) .any _ (k.take a) (by rw[a6C];omega)) ?_;rintro _ j9 ⟨m,n,rfl⟩;refine aj (bh @o @p @r @x @y) ?_;refine dF U.a6 (by simp[aW,R.cells]) λk0 k1 q=> ?_;refine aj (bh @o @p @r @x @y) ?_;have k2:=D.len;refine eh (W.mono (U.au n.sub q.sub)) (D.cells λ_ _=>hh.cells) (by simp[aW,R.cells]) (by grind) (by grind) λs k3 t=> ?_;refine aj (bx @o @p @r @x @y @l) ?_;refine⟨⟨d+1,b.drop a,h.drop a,.any,gs++ [.J (h.take a) m],s,F++ [b.take a],aaU,?_,k.drop a,by rw[a6R];omega,by simp[v],D.snoc ⟨_,_,rfl,k.take a⟩,t,aaV⟩,aaU⟩;rw[<-C,a6N];rfl
 .obtain rfl:d=c:=aaU;rw[a8T,a1.ew,a7E]at C;refine aj (bx @o @p @r @x @y @e) ?_;exact⟨_,U.a6,W.sub,gs,P,rfl,by rw[<-C];exact D⟩
theorem Et (d:List (aq)) (a:List R) (h:Own) (c:U) (k:aB bB d a) (F:d.length<=100000):
  AC Tryz.prog 157 [.J a h] c λp r=> ∃o,bf c r 37 a o/\p= .J a o:=by
 refine nm λG=> ?_;have x:h= .nil->a= []:=λy=>by subst y;simp_all
 refine bc hm Pc aaV ?_;simp -dsimp -implicitDefEqProofs (disch:=first|omega|assumption|(simp only[bd,Nat.reduceAdd];try omega)) only[go_sem,simprocAttr,-List.reduceReplicate,↓oo];refine oq (λb=>by rw[x b]) (λb=> ?_) ?_
 .have z:a= []:=by trivial
  subst z;refine aj @a7u ?_;exact⟨c,U.a6,.nil,bf.nil U.a6,rfl⟩
 .refine bT ?_;refine dF U.a6 (by simp[aW]) λL P C=> ?_;refine bT ?_;have S:=k.len;refine eh C (λ_ b=>by cases b) (k.cells λ_ _=>bB.cells) (by rw[a6G];omega) (by rw[a6G];omega) λD E T=> ?_;refine aj @a6T.{0} ?_;exact⟨E,U.a6,D,by trivial,rfl⟩
theorem Eu (L:List (aq)) (S:List R) (u:Own) (c:Nat) (T:U) (M:aB bB L S) (N:L.length<=100000) (k4:c<=100000):
  AC Tryz.prog 95 [.J S u,.v (.int .i64 (c:Int))] T λO V=>T.sub V/\ ∃gs Q,O= .J gs Q/\aB (hh bB) (a1.ew c L) gs:=by
 refine bc hm Nu aaV ?_;refine bT ?_;refine cm (λz V=> ∃(d:Nat) (b:List (aq)) (h:List R) (E:Own) (gs:List R) (P:Own) (F:List (List (aq))),d<=c/\F++a1.ew (c - d) b=a1.ew c L/\aB bB b h/\b.length<=100000/\F.length=d/\aB (hh bB) F gs/\bf T V 1 gs P/\
   z 0= .J h E/\z 1= .v (.int .i64 c)/\z 5= .J gs P/\z 8= .v (.int .i64 c)/\z 9= .v (.int .i64 d))
  (λz _=>match z 9 with| .v (.int _ X)=>c - X.toNat| _=>0) ⟨0,L,S,u,[],.nil,[],aaU,rfl,M,N,rfl,trivial,bf.nil U.a6,?_⟩ ?_
 .exact kv
 rintro z k5 ⟨d,b,h,E,gs,P,F,k6,C,k,Y,v,D,W,o,p,r,x,y⟩;by_cases e:(d)<(c:Int)
 .have w:=k.len;have Z:=Er (e:=c - d) aaU Y;have A:(c) -(d)=((c - d:Nat):Int):=aaU;rw[show c - d=(c -(d+1))+1 by omega,a1.ew]at C;rw[show c -(d+1)+1=c - d by omega]at C;generalize k7:c - d=G at*;have B: ¬(G:Int)=0:=aaU;have k8:=a9y b.length G;have H:(b.length:Int).tdiv (G:Int)=((b.length/G:Nat)):=rfl;have I:(b.length:Int).tmod (G:Int)=((b.length%G:Nat)):=rfl;obtain⟨a,f⟩: ∃a,a=b.length/G+(if 0<b.length%G then 1 else 0):=⟨_,rfl⟩;rw[<-f]at Z C;by_cases K:0<b.length%G
  .have g:((0)<((b.length%G:Nat):Int))=True:=eq_true aaU;have i:((b.length/G:Nat))+1=(a:Int):=by rw[f,if_pos K];omega
   have j:dO 37 (.J h E) none (some (.v (.int .i64 (a))))=some (.J (h.take a) .any):=o9 aaU aaU (k.cells λ_ _=>bB.cells);have l:dO 37 (.J h E) (some (.v (.int .i64 (a)))) none=some (.J (h.drop a) .any):=qO aaU aaU (k.cells λ_ _=>bB.cells);refine aj (gl @o @p @r @x @y @e @w @A @H @I @B @g @i @j) ?_;refine ah (Et (b.take a) (h.take a) .any _ (k.take a) (by rw[a6C];omega)) ?_;rintro _ j9 ⟨m,n,rfl⟩;refine aj (bh @o @p @r @x @y) ?_;refine dF U.a6 (by simp[aW,R.cells]) λk0 k1 q=> ?_;refine aj (bh @o @p @r @x @y) ?_;have k2:=D.len;refine eh (W.mono (U.au n.sub q.sub)) (D.cells λ_ _=>hh.cells) (by simp[aW,R.cells]) (by grind) (by grind) λs k3 t=> ?_;refine aj (bx @o @p @r @x @y @l) ?_;refine⟨⟨d+1,b.drop a,h.drop a,.any,gs++ [.J (h.take a) m],s,F++ [b.take a],aaU,?_,k.drop a,by rw[a6R];omega,by simp[v],D.snoc ⟨_,_,rfl,k.take a⟩,t,aaV⟩,aaU⟩;rw[<-C,a6N];rfl
  .have g:((0)<((b.length%G:Nat):Int))=False:=eq_false aaU;have i:((b.length/G:Nat))=(a:Int):=by rw[f,if_neg K];omega
   have j:dO 37 (.J h E) none (some (.v (.int .i64 (a))))=some (.J (h.take a) .any):=o9 aaU aaU (k.cells λ_ _=>bB.cells);have l:dO 37 (.J h E) (some (.v (.int .i64 (a)))) none=some (.J (h.drop a) .any):=qO aaU aaU (k.cells λ_ _=>bB.cells);refine aj (gl @o @p @r @x @y @e @w @A @H @I @B @g @i @j) ?_;refine ah (Et (b.take a) (h.take a) .any _ (k.take a) (by rw[a6C];omega)) ?_;rintro _ j9 ⟨m,n,rfl⟩;refine aj (bh @o @p @r @x @y) ?_;refine dF U.a6 (by simp[aW,R.cells]) λk0 k1 q=> ?_;refine aj (bh @o @p @r @x @y) ?_;have k2:=D.len;refine eh (W.mono (U.au n.sub q.sub)) (D.cells λ_ _=>hh.cells) (by simp[aW,R.cells]) (by grind) (by grind) λs k3 t=> ?_;refine aj (bx @o @p @r @x @y @l) ?_;refine⟨⟨d+1,b.drop a,h.drop a,.any,gs++ [.J (h.take a) m],s,F++ [b.take a],aaU,?_,k.drop a,by rw[a6R];omega,by simp[v],D.snoc ⟨_,_,rfl,k.take a⟩,t,aaV⟩,aaU⟩;rw[<-C,a6N];rfl
 .obtain rfl:d=c:=aaU;rw[a8T,a1.ew,a7E]at C;refine aj (bx @o @p @r @x @y @e) ?_;exact⟨_,U.a6,W.sub,gs,P,rfl,by rw[<-C];exact D⟩
theorem mB {b:Type}: ∀ {g:Nat}{l:List b},(a1.ew g l).length=g/\ ∀a∈a1.ew g l,a.length<=l.length
 |0,l=>⟨rfl,λa c=>by cases c⟩
 |g+1,l=>by
  have ih:=mB (g:=g) (l:=l.drop (l.length/(g+1)+if 0<l.length%(g+1)then 1 else 0));refine⟨by rw[a1.ew,a6E,ih.1],λa d=> ?_⟩;rw[a1.ew]at d;grind
def Ev (T:U) (y V:Nat) (W:ag) (k8:bq T y V W) (a:List (List (List Int))) (j:List R) (e:Own) (c:Nat) (k9:1<=c) (l0:c<=8) (l:aB (hh isRow) a j) (l1: ∀m∈a,m.length<=100000) (a14:a.length<=100000):
  AC Tryz.prog 49 [.J j e,.bG 52 [dJ y c] []] T λu f=>match(dx cU c W a []).1 with
   | .error v=>bq f y V (dx cU c W a []).2/\Ext y V T f/\v≠0/\u= .aJ [.J [] .nil,.v (.int .i64 v)]
   | .ok bF=> ∃d h,aB bB bF d/\u= .aJ [h,.v (.int .i64 0)]/\dn T f y V (dx cU c W a []).2 37 (flat d) h/\(bF= []->h= .J [] .nil):=by
 refine bc hm M0 aaV ?_;have w: ∀N,(R.agg N).cells=N:=λ_=>rfl;have A:=(aP (N:= .nil) (e5:= .nil) (h6:= .nil) bj).len;have O:=l.len;have l2:fu Tryz.prog 52=true:=aaZ;have a15:=bJ.J (s:=T) (o:=e) (l.cells λ_ _=>hh.cells);refine aj @O ?_;refine cm (λk f=> ∃(b:Nat) (g:ag) (z:List aq) (d:List R) (h:R),b<=a.length/\dx cU c g (a.drop b) z=dx cU c W a []/\aB bB z d/\z.length=b/\dn T f y V g 37 (flat d) h/\(z= []->h= .J [] .nil)/\
   k 0= .J j e/\k 1= .bG 52 [dJ y c] []/\k 6=h/\k 11= .J j e/\k 12= .v (.int .i64 a.length)/\k 13= .v (.int .i64 b))
  (λk _=>match k 13 with| .v (.int _ l3)=>a.length - l3.toNat| _=>0) ⟨0,W,[],[],.J [] .nil,aaU,rfl,trivial,rfl,dn.nil k8,λ_=>rfl,?_⟩ ?_
 .exact cf @O
 rintro k B ⟨b,g,z,d,h,a16,D,n,l4,H,l5,E,F,G,L,P,S⟩;by_cases Q:(b:Int)<a.length
 .have X:a[b]? =some a[b]:=a6y aaU;have Y:a.drop b=a[b]::a.drop (b+1):=a6Y aaU;have Z:=l1 _ (a6Z (n:=b) aaU);rw[Y,dx]at D;clear Y;generalize a[b]'aaU=m at X D Z;obtain⟨a18,l6,q,I,rfl,j9⟩:=l.get X;obtain⟨a19,l7,l8⟩:=(bJ.J (s:=B) (o:=e) (l.cells λ_ _=>hh.cells)).get b _ l6;have k0:=l8.ld B U.a6 false 1 aaU (by simp[R.cells]);have l9:aL false 1 (R.J q I).cells= .J q I:=rfl;rw[l9]at k0;refine aj (cN @E @F @G @L @P @S @Q @l7 @k0) ?_;refine eL l2 (yi B y V g H.fO m q (.J q I) c k9 l0 j9 (bJ.J (j9.cells λ_ _=>isRow.cells)) Z) ?_;rintro u a27 ⟨k1,n0,s⟩;have k2:=H.step n0 k1;generalize a29:dB g c (cU m)=n1 at*;obtain⟨res,n2⟩:=n1;simp only at D k1 s k2;obtain⟨C,o,p,r,v,k3,x⟩:=s.shape;have k4:=aP (N:=o) (e5:=p) (h6:=r) k3;have i:=k4.len;have K:putAt (ab az .nil .nil .nil) 0 (ab C o p r)=ab C o p r:=cy bj k3;subst x;refine aj (fA @E @F @G @L @P @S @ch @w @A @i @K) ?_;refine aN λa30 n3=> ?_;have M:=k2.mono (U.af (X:= .cells (ab C o p r)) U.a6 n3);cases res with
  |error a34=>obtain⟨n4,x⟩:=s;simp only[R.aJ.injEq,a8X,R.v.injEq,Value.int.injEq,true_and,and_true]at x;obtain⟨_,rfl⟩:=x;rw[<-D];refine aj (lr @E @F @G @L @P @S @ch @w @A @i @K @U.set_set @n4) ?_;exact⟨_,U.a6,M.fO,M.ext⟩
  |ok k5=>
   obtain⟨n5,n9,a00,a01,a02,x⟩:=s;simp only[R.aJ.injEq,a8X,R.v.injEq,Value.int.injEq,true_and,and_true,R.agg.injEq]at x;obtain⟨x,rfl⟩:=x;obtain⟨a03,a04,a05,a06⟩:=M;refine aj (gl @E @F @G @L @P @S @ch @w @A @i @K @U.set_set @U.ai k4.t37) ?_;refine eK (by simp[aW,R.cells,i]) aaV λa36 a07=> ?_;have a08:=av.mono a04 (U.af (X:= .cells (flat [R.agg (ab C o p r)])) U.a6 a07);have a09:aB bB (z++ [k5]) (d++ [R.agg (ab C o p r)]):=n.snoc ⟨n5,n9,a00,a01,a02,by rw[x]⟩;have k6:(flat d).length=z.length*37:=by rw[cR (n.cells λ_ _=>bB.cells),n.len]
   have t:(flat [R.agg (ab C o p r)]).length=1*37:=by simp[flat,R.cells,i]
   refine aj (bx @E @F @G @L @P @S) ?_;refine fb a08 aaU (nC t) t (by rw[k6,t];omega) (by rw[k6,t];omega) λa10 a38 k7=> ?_;have a11:flat d++flat [R.agg (ab C o p r)]=flat (d++ [R.agg (ab C o p r)]):=by simp[flat]
   rw[a11]at k7;refine aj (bx @E @F @G @L @P @S) ?_;exact⟨⟨b+1,n2,z++ [k5],_,a10,aaU,D,a09,by simp[l4],⟨a03,k7,a05,a06⟩,(λa13=>by simp at a13),aaV⟩,aaU⟩
 .obtain rfl:b=a.length:=aaU;rw[a8G,dx]at D;rw[<-D];refine aj (c9 @E @F @G @L @P @S @Q) ?_;exact⟨_,U.a6,d,h,n,rfl,H,l5⟩
def ZS (h:U) (c k:Nat) (d:ag) (C:bq h c k d) (a:List (List (List Int))) (p:List R) (r:Own) (b:Nat) (D:1<=b) (E:b<=8) (F:aB (hh isRow) a p) (G: ∀L∈a,L.length<=100000) (P:a.length<=100000):
  AC Tryz.prog 49 [.J p r,.bG 52 [dJ c b] []] h λx o=>bq o c k (dx cU b d a []).2/\Ext c k h o/\Ep (dx cU b d a []).1 x:=by
 refine(Ev h c k d C a p r b D E F G P).view λx o y=> ?_;generalize dx cU b d a []=S at*;obtain⟨res,m⟩:=S;cases res with
 |error n=>obtain⟨T,V,W,rfl⟩:=y;exact⟨_,o,View.refl,T,V,W,rfl⟩
 |ok bF=>obtain⟨e,q,z,rfl,f,_⟩:=y;obtain⟨g,i,j,l⟩:=f.ta z;exact⟨_,g,View.aJ (a:= []) i,j,l,e,.any,z,rfl⟩
def oF (a:ag) (b:Nat) (c:List (List Int)):Except Int (List aq)×ag:=dx cU b a (a1.chunks c) []
def Ew (T:U) (y V:Nat) (W:ag) (k8:bq T y V W) (a:List (List (aq))) (j:List R) (e:Own) (c:Nat) (k9:1<=c) (l0:c<=8) (l:aB (hh bB) a j) (l1: ∀m∈a,m.length<=100000) (a14:a.length<=100000):
  AC Tryz.prog 94 [.J j e,.bG 96 [dJ y c] []] T λu f=>match(dx eo c W a []).1 with
   | .error v=>bq f y V (dx eo c W a []).2/\Ext y V T f/\v≠0/\u= .aJ [.J [] .nil,.v (.int .i64 v)]
   | .ok bF=> ∃d h,aB bB bF d/\u= .aJ [h,.v (.int .i64 0)]/\dn T f y V (dx eo c W a []).2 37 (flat d) h/\(bF= []->h= .J [] .nil):=by
 refine bc hm Ns aaV ?_;have w: ∀N,(R.agg N).cells=N:=λ_=>rfl;have A:=(aP (N:= .nil) (e5:= .nil) (h6:= .nil) bj).len;have O:=l.len;have l2:fu Tryz.prog 96=true:=aaZ;have a15:=bJ.J (s:=T) (o:=e) (l.cells λ_ _=>hh.cells);refine aj @O ?_;refine cm (λk f=> ∃(b:Nat) (g:ag) (z:List aq) (d:List R) (h:R),b<=a.length/\dx eo c g (a.drop b) z=dx eo c W a []/\aB bB z d/\z.length=b/\dn T f y V g 37 (flat d) h/\(z= []->h= .J [] .nil)/\
   k 0= .J j e/\k 1= .bG 96 [dJ y c] []/\k 6=h/\k 11= .J j e/\k 12= .v (.int .i64 a.length)/\k 13= .v (.int .i64 b))
  (λk _=>match k 13 with| .v (.int _ l3)=>a.length - l3.toNat| _=>0) ⟨0,W,[],[],.J [] .nil,aaU,rfl,trivial,rfl,dn.nil k8,λ_=>rfl,?_⟩ ?_
 .exact cf @O
 rintro k B ⟨b,g,z,d,h,a16,D,n,l4,H,l5,E,F,G,L,P,S⟩;by_cases Q:(b:Int)<a.length
 .have X:a[b]? =some a[b]:=a6y aaU;have Y:a.drop b=a[b]::a.drop (b+1):=a6Y aaU;have Z:=l1 _ (a6Z (n:=b) aaU);rw[Y,dx]at D;clear Y;generalize a[b]'aaU=m at X D Z;obtain⟨a18,l6,q,I,rfl,j9⟩:=l.get X;obtain⟨a19,l7,l8⟩:=(bJ.J (s:=B) (o:=e) (l.cells λ_ _=>hh.cells)).get b _ l6;have k0:=l8.ld B U.a6 false 1 aaU (by simp[R.cells]);have l9:aL false 1 (R.J q I).cells= .J q I:=rfl;rw[l9]at k0;refine aj (cN @E @F @G @L @P @S @Q @l7 @k0) ?_;refine eL l2 (Ej B y V g H.fO m q (.J q I) c k9 l0 j9 (bJ.J (j9.cells λ_ _=>bB.cells)) Z) ?_;rintro u a27 ⟨k1,n0,s⟩;have k2:=H.step n0 k1;generalize a29:dB g c (eo m)=n1 at*;obtain⟨res,n2⟩:=n1;simp only at D k1 s k2;obtain⟨C,o,p,r,v,k3,x⟩:=s.shape;have k4:=aP (N:=o) (e5:=p) (h6:=r) k3;have i:=k4.len;have K:putAt (ab az .nil .nil .nil) 0 (ab C o p r)=ab C o p r:=cy bj k3;subst x;refine aj (fA @E @F @G @L @P @S @ch @w @A @i @K) ?_;refine aN λa30 n3=> ?_;have M:=k2.mono (U.af (X:= .cells (ab C o p r)) U.a6 n3);cases res with
  |error a34=>obtain⟨n4,x⟩:=s;simp only[R.aJ.injEq,a8X,R.v.injEq,Value.int.injEq,true_and,and_true]at x;obtain⟨_,rfl⟩:=x;rw[<-D];refine aj (lr @E @F @G @L @P @S @ch @w @A @i @K @U.set_set @n4) ?_;exact⟨_,U.a6,M.fO,M.ext⟩
  |ok k5=>
   obtain⟨n5,n9,a00,a01,a02,x⟩:=s;simp only[R.aJ.injEq,a8X,R.v.injEq,Value.int.injEq,true_and,and_true,R.agg.injEq]at x;obtain⟨x,rfl⟩:=x;obtain⟨a03,a04,a05,a06⟩:=M;refine aj (gl @E @F @G @L @P @S @ch @w @A @i @K @U.set_set @U.ai k4.t37) ?_;refine eK (by simp[aW,R.cells,i]) aaV λa36 a07=> ?_;have a08:=av.mono a04 (U.af (X:= .cells (flat [R.agg (ab C o p r)])) U.a6 a07);have a09:aB bB (z++ [k5]) (d++ [R.agg (ab C o p r)]):=n.snoc ⟨n5,n9,a00,a01,a02,by rw[x]⟩;have k6:(flat d).length=z.length*37:=by rw[cR (n.cells λ_ _=>bB.cells),n.len]
   have t:(flat [R.agg (ab C o p r)]).length=1*37:=by simp[flat,R.cells,i]
   refine aj (bx @E @F @G @L @P @S) ?_;refine fb a08 aaU (nC t) t (by rw[k6,t];omega) (by rw[k6,t];omega) λa10 a38 k7=> ?_;have a11:flat d++flat [R.agg (ab C o p r)]=flat (d++ [R.agg (ab C o p r)]):=by simp[flat]
   rw[a11]at k7;refine aj (bx @E @F @G @L @P @S) ?_;exact⟨⟨b+1,n2,z++ [k5],_,a10,aaU,D,a09,by simp[l4],⟨a03,k7,a05,a06⟩,(λa13=>by simp at a13),aaV⟩,aaU⟩
 .obtain rfl:b=a.length:=aaU;rw[a8G,dx]at D;rw[<-D];refine aj (c9 @E @F @G @L @P @S @Q) ?_;exact⟨_,U.a6,d,h,n,rfl,H,l5⟩
def ZT (h:U) (c k:Nat) (d:ag) (C:bq h c k d) (a:List (List (aq))) (p:List R) (r:Own) (b:Nat) (D:1<=b) (E:b<=8) (F:aB (hh bB) a p) (G: ∀L∈a,L.length<=100000) (P:a.length<=100000):
  AC Tryz.prog 94 [.J p r,.bG 96 [dJ c b] []] h λx o=>bq o c k (dx eo b d a []).2/\Ext c k h o/\Ep (dx eo b d a []).1 x:=by
 refine(Ew h c k d C a p r b D E F G P).view λx o y=> ?_;generalize dx eo b d a []=S at*;obtain⟨res,m⟩:=S;cases res with
 |error n=>obtain⟨T,V,W,rfl⟩:=y;exact⟨_,o,View.refl,T,V,W,rfl⟩
 |ok bF=>obtain⟨e,q,z,rfl,f,_⟩:=y;obtain⟨g,i,j,l⟩:=f.ta z;exact⟨_,g,View.aJ (a:= []) i,j,l,e,.any,z,rfl⟩
def jS (a:ag) (b:Nat) (c:List (aq)):Except Int (List aq)×ag:=dx eo b a (a1.chunks c) []
theorem pO {b:Type}{c:List b->bY}{d:Nat}: ∀ {gs:List (List b)}{S S':ag}{acc ks:List aq},dx c d S gs acc=(.ok ks,S')->ks.length=acc.length+gs.length
 | [],S,S',acc,ks,a=>by
  grind[dx,Prod.mk.inj,Except.ok.inj]
 |h::gs,S,S',acc,ks,a=>by
  rw[dx]at a;split at a
  .simp_all
  .have:=pO a;rw[this];simp;omega
def hi (c:Nat):Nat->ag->List aq->Except Int aq×ag
 |0,a,_=>(.error 1,a)
 |d+1,a,bF=>
  if 1<bF.length then match jS a c bF with
   |(.error h,b)=>(.error h,b)
   |(.ok up,b)=>hi c d b up
  else(.ok (bF.headD az),a)
def Ex (k:U) (c o:Nat) (g:ag) (H:bq k c o g) (d:List aq) (i:List R) (k4:Own) (b:Nat) (n5:1<=b) (n9:b<=8) (a00:aB bB d i) (a30:d.length<=100000):
  AC Tryz.prog 53 [dJ c b,.J i k4] k λk5 h=>bq h c o (hi b (d.length+1) g d).2/\Ext c o k h/\gR (hi b (d.length+1) g d).1 k5:=by
 refine bc hm M9 aaV ?_;have T: ∀k6,(R.agg k6).cells=k6:=λ_=>rfl;have I:=(aP (N:= .nil) (e5:= .nil) (h6:= .nil) bj).len;have K: ∀E V:R,List.take 2 [E,V]= [E,V]:=λ_ _=>rfl;have M: ∀E V,aL true 2 [E,V]= .agg [E,V]:=λ_ _=>rfl;refine aj @T ?_;refine aN λj k7=> ?_;refine aj (c2 @T @ch) ?_;refine aN λF q=> ?_;have k8:j≠F:=by rintro rfl;rw[U.ai]at q;cases q
 have N:k F=none:=by rw[U.an _ _ (a6I k8)]at q;exact q
 obtain⟨p,s⟩: ∃p:U,p=(k.set j (.cells [.ptr c 0,.v (.int .i64 (b))])).set F (.cells (ab az .nil .nil .nil)):=⟨_,rfl⟩;have k9:k.sub p:=by rw[s];exact U.af (U.af U.a6 k7) N
 have aM:p F=some (.cells (ab az .nil .nil .nil)):=by rw[s,U.ai]
 have c2:p j=some (.cells [.ptr c 0,.v (.int .i64 (b))]):=by rw[s,U.an _ _ k8,U.ai]
 have G:=H.cA N;have l0:=H.cA k7;have l1:=(aP (N:= .nil) (e5:= .nil) (h6:= .nil) bj).t37;have l2:putAt (ab az .nil .nil .nil) 0 (ab az .nil .nil .nil)=ab az .nil .nil .nil:=cy bj bj;have O: ∀(h) (l3),Ext c o p h->Ext c o k (h.set F l3):=λh l3 Q=>((Ext.of k9).trans Q).set N;simp -dsimp -implicitDefEqProofs (disch:=first|omega|assumption|(simp only[bd,Nat.reduceAdd];try omega)) only[go_sem,simprocAttr,-List.reduceReplicate,T,ch];rw[show(k.set j (.cells (dJ c b).cells)).set F (.cells (List.replicate 32 (R.v (.int .u8 0))++ [R.J [] .nil,.J [] .nil]++ [R.v (.int .i64 0),.v (.int .i64 0)]++ [R.J [] .nil]))=p by rw[s,<-ch];rfl];refine cm (λW h=> ∃(e:Nat) (r:ag) (a:List aq) (t:List R) (u:Own),hi b e r a=hi b (d.length+1) g d/\a.length<e/\e<=100001/\aB bB a t/\bq h c o r/\Ext c o p h/\W 1= .J t u/\W 2= .ptr j 0/\W 4= .ptr F 0)
  (λW _=>match W 1 with| .J i _=>i.length| _=>0) ⟨d.length+1,g,d,i,k4,rfl,aaU,aaU,a00,H.mono k9,Ext.refl,?_⟩ ?_
 .exact kv
 rintro W l ⟨e,r,a,t,u,x,a34,a36,v,X,m,L,P,S⟩;have w:=v.len;have Y:=m _ _ l0.1 l0.2 c2;have l4:=m _ _ G.1 G.2 aM;obtain⟨Z,rfl⟩: ∃Z,e=Z+1:=⟨e - 1,aaU⟩;rw[hi]at x;by_cases A:(1:Int)<a.length
 .rw[if_pos aaU]at x;refine aj (bt @L @P @S @w @A (U.ae Y) @K @M) ?_;refine ah (uX a.length aaU l) ?_;rintro _ l ⟨rfl,rfl⟩;refine aj (bt @L @P @S @w @A (U.ae Y) @K @M) ?_;have l5:a1.bS a.length<=100000:=by unfold a1.bS;omega
  refine ah (Eu a t u (a1.bS a.length) l v aaU l5) ?_;rintro _ a01 ⟨j9,gs,a02,rfl,a03⟩;have a04:=j9 _ _ Y;refine aj (bx @L @P @S (U.ae a04) @K @M) ?_;have k0:=mB (g:=a1.bS a.length) (l:=a);refine ah (ZT a01 c o r (X.mono j9) _ gs a02 b n5 n9 a03 (λa05 a06=>by have:=k0.2 a05 a06;omega) (by rw[k0.1];exact l5)) ?_;rintro k5 a38 ⟨n,a07,y⟩;have l6:jS r b a=dx eo b r (a1.ew (a1.bS a.length) a) []:=rfl;rw[<-l6]at n y;have l7:=λB a08 Q=>pO (c:=eo) (d:=b) (gs:=a1.ew (a1.bS a.length) a) (S:=r) (S':=B) (acc:= []) (ks:=a08) Q;rw[<-l6]at l7;have k1:=m.trans ((Ext.of j9).trans a07);have a09:=k1 _ _ G.1 G.2 aM;generalize jS r b a=a10 at*;obtain⟨res,B⟩:=a10;cases res with
  |error a42=>obtain⟨l8,rfl⟩:=y;simp only at x n;rw[<-x];refine aj (cd @L @P @S @l8 @ch @T (U.aI a09) @I @l1 @l2) ?_;exact⟨_,U.a6,n.set G,O _ _ k1,l8,rfl⟩
  |ok up=>
   obtain⟨a11,a13,l9,rfl⟩:=y;have n0:=l7 B up rfl;rw[k0.1]at n0;have a43:up.length<a.length:=by rw[n0];unfold a1.bS;simp;omega
   have a47:=l9.len;simp only at x n;refine aj (aE @L @P @S) ?_;exact⟨⟨Z,B,up,a11,a13,x,aaU,aaU,l9,n,k1,rfl⟩,aaU⟩
 .rw[if_neg aaU]at x;rw[<-x];by_cases k2:(a.length:Int)=0
  .have:a= []:=a6F aaU;subst this;refine aj (gk @L @P @S @w @A @k2 @ch @T (U.aI l4) @I @l1 @l2) ?_;exact⟨_,U.a6,X.set G,O _ _ m,bj,pM,.nil,.nil,.nil,rfl⟩
  .have n1:a[0]? =some a[0]:=a6y aaU;have a14:a.headD az=a[0]'aaU:=by cases a with|nil=>simp at k2|cons E V=>rfl
   rw[a14];generalize a[0]'aaU=f at n1;obtain⟨E,a15,k3,a16,z,C,D,rfl⟩:=v.get n1;obtain⟨a48,n2,n3⟩:=(bJ.J (s:=l) (o:=u) (v.cells λ_ _=>bB.cells)).get 0 _ a15;have y:=aP (N:=z) (e5:=C) (h6:=D) k3;have a18:=y.len;have a19:(R.agg (ab f z C D)).cells=ab f z C D:=rfl;rw[a19]at n3;have n4:=n3.ld l U.a6 true 37 aaU (by rw[y.len];omega);rw[show aL true 37 (ab f z C D)= .agg (ab f z C D) by rw[aL,if_pos rfl,y.t37]]at n4;have a27:((0:Nat):Int)=0:=rfl;rw[a27]at n2;have a29:putAt (ab az .nil .nil .nil) 0 (ab f z C D)=ab f z C D:=cy bj k3;refine aj (gl @L @P @S @w @A @k2 @n2 @n4 @T (U.aI l4) @I @a18 @a29 y.t37) ?_;exact⟨_,U.a6,X.set G,O _ _ m,k3,a16,z,C,D,rfl⟩
end Go.Proofs.YtcfpcblgmmeioaaGreat
namespace Go.bD
open Go
variable{g B c0:List R}{e i v M b9 j2:Nat}
theorem pP {a:List R}{v:Nat} (b:g.take e=a) (c:B.length=v) (d:c0.length=i) (h:e+v+i<=g.length):
  (putAt (putAt g (e+v) c0) e B).take (e+v+i)=a++(B++c0)/\(putAt (putAt g e B) (e+v) c0).take (e+v+i)=a++(B++c0):=by
 have k:a.length=e:=by rw[<-b,a6C];omega
 constructor
 .have o:(g.take (e+v)).length=e+v:=by rw[a6C];omega
  grind[putAt,List.append_assoc,Nat.min_eq_left,List.drop_left',List.take_left',List.length_append]
 grind[putAt,List.take_left',List.length_append,List.append_assoc]
variable{e1:IntKind}
theorem oG (k:e<=M) (o:M<=b9): ∃v,cn i (.ao j2 M b9 i) (some (.v (.int e1 (e:Int)))) none none=some v/\fa v=some (.v (.int .i64 ((M - e:Nat):Int)))/\
  ∀(c:U) (a b:List R),c j2=some (.cells a)->M*i<=a.length->a.take (M*i)=b->bV c i v=some (M - e,b.drop (e*i)):=by
 by_cases p:e<b9
 .refine⟨_,gm k o p,rfl,λc a b d r h=> ?_⟩;have x:e*i+(M - e)*i=M*i:=by rw[<-a7I];congr 1;omega
  simp only[bV,U.ae d];grind
 .obtain rfl:e=M:=aaU;obtain rfl:e=b9:=aaU;refine⟨_,um rfl,by simp[fa],λc a b d r h=> ?_⟩;have:b.drop (e*i)= []:=a7n (by rw[<-h,a6C];omega);rw[this,a8T];rfl
theorem Ey {a:Nat}{b:IntKind} (c:b9<=e) (d:e<=M): ∃v,cn i (.ao j2 a M i) (some (.v (.int e1 (b9:Int)))) (some (.v (.int b (e:Int)))) none=some v:=by simp_all [cn,cE,Go.bD.intOf]
theorem Ez {a b:Nat}{c d:IntKind} (h:j2<=e) (k:e<=i) (o:i<=b9): ∃v,cn M (.ao a b b9 M) (some (.v (.int e1 (j2:Int)))) (some (.v (.int c (e:Int)))) (some (.v (.int d (i:Int))))=some v:=by simp_all [cn,cE,Go.bD.intOf]
variable{f s e0:U}
theorem av.first (c:av f s e g (.ao v M b9 e)) (d:i<=M):av f s e (g.take (i*e)) (.ao v i b9 e):=by
 obtain⟨h,a⟩:=c;rcases a with ⟨_,a|a⟩|⟨y,z,C,k,b,o,p,r,D,E,F,x⟩
 .cases a
 .cases a
 simp only[R.ao.injEq,and_true]at b;obtain⟨rfl,rfl,rfl⟩:=b;have G:i*e<=M*e:=a6O _ d;exact⟨h,.inr ⟨v,i,b9,k,rfl,o,p,r,by grind,by simp_all,aaU,x⟩⟩
theorem av.ao {o p:U}{k:Nat}{a:List R}{r:R} (y:av o p k a r) (z:a≠ []): ∃d b c h,r= .ao d b c k/\o d=none/\p d=some (.cells h)/\h.length=c*k/\h.take (b*k)=a/\a.length=b*k/\b<=c/\c<=maxLen:=by
 rcases y.2 with ⟨x,_⟩|x
 .trivial
 .exact x
variable{n b6:R}{X j8:bs}
theorem av.add (o:av s f i g n) (E:f e=some X) (p: ∀a b c,n= .ao a b c i->a≠e):av (s.set e X) f i g n:=by
 obtain⟨r,d⟩:=o;refine⟨λx F h=> ?_,?_⟩
 .by_cases y:x=e;grind[U.ai]
  .rw[U.an _ _ y]at h;exact r _ _ h
 .rcases d with d|⟨a,b,c,z,k,C,D⟩
  .exact .inl d
  .exact .inr ⟨a,b,c,z,k,by rw[U.an _ _ (p _ _ _ k)];exact C,D⟩
variable{t Z:R -> U -> Prop}
theorem uY {a:cz t} (b:f M=some (.cells g)) (c:g.length=b9*e) (d:bV f e n=some (v,B)) (h:i+v<=b9) (k:(i+v)*j2<=140737488355328) (o:i+v<=9223372036854775807)
  (p:t (.ao M (i+v) b9 e) (f.set M (.cells (putAt g (i*e) B)))):jL e j2 f (.ao M i b9 e) n (bX t a):=by
 simp_all [jL,wk,bX]
end Go.bD
namespace Go.Proofs.YtcfpcblgmmeioaaGreat
open Go Go.bD
theorem ZU (z o:U) (c:List R) (C:R) (D:av z o 1 c C) (a:Nat) (E:a<c.length) (u:c.length<=100000):
  AC Tryz.prog 234 [C,.v (.int .i64 (a:Int)),.v (.int .i64 ((a:Int)+1))] o λT V=>av z V 1 (c.take a++c.drop (a+1)) T:=by
 obtain⟨d,b,h,F,rfl,G,L,P,W,v,p,e⟩:=D.ao (λf=>by rw[f]at E;simp at E);refine bc hm Rr aaV ?_;have w:b=c.length:=aaU;have g:(a)+1=((a+1:Nat):Int):=aaU;rw[g];obtain⟨A,i⟩:=Ez (M:=1) (a:=d) (b:=b) (j2:=a) (e:=a+1) (e1:= .i64) (c:= .i64) (d:= .i64) aaU aaU p;have j:cn 1 (.ao d b h 1) none (some (.v (.int .i64 (a)))) none=some (.ao d a h 1):=hU aaU;obtain⟨B,l,_,r⟩:=oG (i:=1) (j2:=d) (e:=a+1) (e1:= .i64) aaU p;have r:=r o F c L (by rw[P];omega) W;have m: ¬(a)=((a+1:Nat):Int):=aaU;refine dG (aM @i @j @l @m) ?_;refine uY L P r aaU aaU aaU ?_;have n:a+(b -(a+1))=b - 1:=aaU;rw[n,a7s];have H:(c.drop ((a+1)*1)).length=b -(a+1):=by rw[a6R];omega
 obtain⟨k,x⟩: ∃k,k=putAt F a (c.drop ((a+1)*1)):=⟨_,rfl⟩;have y:k.length=h:=by rw[x,eI _ _ _ aaU];omega
 have q:k.take (b - 1)=c.take a++c.drop (a+1):=by rw[x,putAt];grind
 rw[<-x];have s:(o.set d (.cells k)) d=some (.cells k):=U.ai _ _ _;have S:cn 1 (.ao d (b - 1) h 1) (some (.v (.int .i64 ((b - 1:Nat))))) (some (.v (.int .i64 ((b))))) none=some (.bE d ((b - 1)*1) (b -(b - 1)) (h -(b - 1)) 1):=CR aaU p aaU;have t:=xx (e:=1) (M:=b -(b - 1)) (v:=b - 1) (b9:=h -(b - 1)) (B:= [R.J [] .nil]) s (by rw[y];omega);rw[a7s]at S;refine dG (aE @S @t @U.set_set) ?_;refine⟨_,U.a6,U.af D.1 G,.inr ⟨d,b - 1,h,_,rfl,G,U.ai _ _ _,?_,?_,?_,aaU,e⟩⟩
 .rw[eI _ _ _ (by rw[lk,y];simp;omega),y,a7s]
 .rw[putAt,a7s,a6N,a8f (by rw[a6C];omega),a7N,a8L,q]
 grind
theorem ZV (l o:U) (d:List R) (H:R) (y:av l o 1 d H) (O:d≠ []) (a:Nat) (l1:a<=d.length) (l2:d.length<=100000) (k:R) (z:Nat) (m:l z=some (.cells [k])):
  AC Tryz.prog 227 [H,.v (.int .i64 (a:Int)),.ao z 1 1 1] o λQ G=>av l G 1 (d.take a++k::d.drop a) Q:=by
 obtain⟨c,b,h,x,rfl,n,D,q,s,l3,X,Y⟩:=y.ao O;refine bc hm Rf aaV ?_;have l4:b=d.length:=aaU;have L:=y.1 _ _ m;have I:c≠z:=by rintro rfl;rw[n]at m;cases m
 have W:((1:Nat):Int)=1:=rfl;obtain⟨l5,e,_,K⟩:=oG (i:=1) (j2:=c) (e:=a) (e1:= .i64) aaU X;have t: ∀G:U,G z=some (.cells [k])->bV G 1 (.ao z 1 1 1)=some (1,[k]):=λG y=>by simp[bV,U.ae y]
 by_cases c1:(a:Int)=b
 .have Z:=eq_true c1;refine dG (aE @e @Z @W) ?_;refine fb y aaU (t o L) rfl (by grind) (by grind) λl6 G l7=> ?_;refine CV ?_;grind[U.a6,List.take_of_length_le,List.drop_eq_nil_of_le]
 have l8:a<b:=aaU;have j9:=K o x d D aaU s;rw[a7s]at j9;have M:(d.drop a).length=b - a:=by rw[a6R];omega
 by_cases c2:(h)<(b:Int)+1
 .have f:cn 1 (.ao c b h 1) none (some (.v (.int .i64 (a)))) none=some (.ao c a h 1):=hU aaU;have N:(b)+1 -(a)=((b+1 - a:Nat):Int):=aaU;refine dG (bx @e @c1 @W @c2 @f @N) ?_;refine xz D q aaU aaU aaU λp C k0 g i k1 k2=> ?_;have k3:a+(b+1 - a)=b+1:=aaU;rw[k3]at i k2|-;have k4:p≠c:=by rintro rfl;rw[g]at D;cases D
  have k5:p≠z:=by rintro rfl;rw[g]at L;cases L
  obtain⟨E,k6⟩: ∃E,E=x.take (a*1)++(List.replicate (b+1 - a) [R.J [] .nil]).flatten++k0:=⟨_,rfl⟩;have k7:E.length=C:=by grind[List.length_append,lk,List.length_take]
  have u:E.take a=d.take a:=by grind
  rw[<-k6];have V:cn 1 (.ao p (b+1) C 1) (some (.v (.int .i64 (a)))) none none=some (.bE p (a*1) (b+1 - a) (C - a) 1):=gm aaU i aaU;have F:cn 1 (.ao p (b+1) C 1) (some (.v (.int .i64 ((a)+1)))) none none=some (.bE p ((a+1)*1) (b+1 -(a+1)) (C -(a+1)) 1):=by rw[show(a)+1=((a+1:Nat):Int) by omega];exact gm aaU i aaU
  rw[a7s]at V F;rw[aaC]at F;have v:(o.set p (.cells E)) z=some (.cells [k]):=by rw[U.an _ _ (a6I k5)];exact L
  have P:=hy (M:=a) (j2:=C - a) (i:=b+1 - a) (t _ v) (U.ai o p (.cells E)) aaU;have w: [k].take ((b+1 - a)*1)= [k]:=a6z aaW;rw[w]at P;obtain⟨r,S⟩: ∃r,r=putAt E a [k]:=⟨_,rfl⟩;have A:r.length=C:=by rw[S,eI _ _ _ aaW,k7]
  rw[<-S]at P;have k8:(o.set p (.cells r)) c=some (.cells x):=by rw[U.an _ _ (a6I k4)];exact D
  have j:=K _ x d k8 aaU s;rw[a7s]at j;have T:=hy (M:=a+1) (j2:=C -(a+1)) (i:=b - a) j (U.ai o p (.cells r)) aaU;have B:(d.drop a).take ((b - a)*1)=d.drop a:=a6z aaU;rw[B]at T;refine dG (fA @e @c1 @W @c2 @f @N @V @F @P @T @U.set_set) ?_;refine⟨_,U.a6,U.af y.1 (U.bI y.1 g),.inr ⟨p,b+1,C,_,rfl,U.bI y.1 g,U.ai _ _ _,?_,?_,?_,i,k1⟩⟩
  .rw[eI _ _ _ aaU,A,a7s]
  .have:=(pP (B:= [k]) (v:=1) u rfl M aaU).2;rw[show(b+1)*1=a+1+(b - a) by omega,S];exact this
  grind
 .have f:cn 1 (.ao c b h 1) none (some (.v (.int .i64 ((b)+1)))) none=some (.ao c (b+1) h 1):=by rw[show(b)+1=((b+1:Nat):Int) by omega];exact hU aaU
  have V:cn 1 (.ao c (b+1) h 1) (some (.v (.int .i64 (a)))) none none=some (.bE c (a*1) (b+1 - a) (h - a) 1):=gm aaU aaU aaU;have F:cn 1 (.ao c (b+1) h 1) (some (.v (.int .i64 ((a)+1)))) none none=some (.bE c ((a+1)*1) (b+1 -(a+1)) (h -(a+1)) 1):=by rw[show(a)+1=((a+1:Nat):Int) by omega];exact gm aaU aaU aaU
  rw[a7s]at V F;rw[aaC]at F;have k9:x≠ []:=by rintro rfl;simp at q;omega
  have l0:lh (.ao z 1 1 1) (.bE c (a+1) (b - a) (h -(a+1)) 1) o=some (.v (.bool false)):=xy rfl rfl (a6I I) (qU L aaV) (qU D k9);have j:bV o 1 (.bE c a (b+1 - a) (h - a) 1)=some (b+1 - a,(x.drop a).take (b+1 - a)):=by simp only[bV,U.ae D,a7s];grind
  have T:=hy (M:=a+1) (j2:=h -(a+1)) (i:=b - a) j D aaU;have B:((x.drop a).take (b+1 - a)).take ((b - a)*1)=d.drop a:=by rw[a7N,<-s,a7T];congr 1;omega
  rw[B]at T;obtain⟨r,S⟩: ∃r,r=putAt x (a+1) (d.drop a):=⟨_,rfl⟩;rw[<-S]at T;have A:r.length=x.length:=by rw[S,eI _ _ _ aaU]
  have v:(o.set c (.cells r)) z=some (.cells [k]):=by rw[U.an _ _ (a6I I)];exact L
  have P:=hy (M:=a) (j2:=h - a) (i:=b+1 - a) (t _ v) (U.ai o c (.cells r)) aaU;have w: [k].take ((b+1 - a)*1)= [k]:=a6z aaW;rw[w]at P;refine dG (fA @e @c1 @W @c2 @f @V @F @l0 @T @P @U.set_set) ?_;refine⟨_,U.a6,U.af y.1 n,.inr ⟨c,b+1,h,_,rfl,n,U.ai _ _ _,?_,?_,?_,aaU,Y⟩⟩
  .rw[eI _ _ _ aaW,A,q]
  .have u:x.take a=d.take a:=by grind
   have:=(pP (B:= [k]) (v:=1) u rfl M aaU).1;grind
  grind
end Go.Proofs.YtcfpcblgmmeioaaGreat
namespace Go.bD
open Go
variable{f s e0:U}{e i v M b9 j2:Nat}{X j8:bs}
theorem U.tb (a:f e=some X):f.set e X=f:=by grind[U.ai,U.an]
variable{e1:IntKind}{g B c0:List R}
def uZ (k:i<=M) (h:M<=b9) (o:g.length=e): ∃v,cn e (.ao j2 M b9 e) (some (.v (.int e1 (i:Int)))) none none=some v/\
  ∀(b:U) (a:List R),b j2=some (.cells a)->a.length=b9*e-> ∃c,lg e g v b=some (b.set j2 (.cells c))/\c.length=a.length/\c.take (i*e)=a.take (i*e):=by
 by_cases p:i<b9
 .refine⟨_,gm k h p,λb a d r=> ?_⟩;have x:i*e+(M - i)*e=M*e:=by rw[<-a7I];congr 1;omega
  have y:M*e<=b9*e:=a6O _ h;have z:i*e<=a.length:=aaU;refine⟨_,xx d aaU,?_,?_⟩
  .rw[eI _ _ _ (by rw[lk,o];omega)]
  .rw[putAt,a6N,a8f (by rw[a6C];omega),a7N,a8L]
 .obtain rfl:i=M:=aaU;obtain rfl:i=b9:=aaU;exact⟨_,um rfl,λb a d r=>⟨a,by rw[XC,U.tb d],rfl,rfl⟩⟩
end Go.bD
namespace Go.Proofs.YtcfpcblgmmeioaaGreat
open Go Go.bD
theorem EA (l8 X r:U) (x G:List R) (k7 v:R) (o b a c:Nat) (k8:Int) (l9:k8=(c:Int)) (C:av X r 37 x k7) (k9:x.length=o*37) (n0:av l8 X 37 G v) (V:G.length=b*37) (a42:0<b) (a43:a<c) (a47:c<=o) (a48:o<=100000) (a52:b<=100000):
  AC Tryz.prog 230 [k7,.v (.int .i64 (a:Int)),.v (.int .i64 k8),v] r λn1 g=>av X g 37 (x.take (a*37)++(G++x.drop (c*37))) n1:=by
 subst l9;obtain⟨h,n2,p,z,rfl,e,E,t,Y,a56,Z,j9⟩:=C.ao (λk0=>by rw[k0]at k9;simp at k9;omega);obtain⟨f,n3,l0,u,rfl,a57,k1,n4,a61,a62,a63,a65⟩:=n0.ao (λk0=>by rw[k0]at V;simp at V;omega);obtain rfl:o=n2:=aaU;obtain rfl:b=n3:=aaU;have L:=C.1 _ _ k1;have l1:h≠f:=by rintro rfl;rw[e]at k1;cases k1
 have m: ∀g:U,g f=some (.cells u)->bV g 37 (.ao f b l0 37)=some (b,G):=λg C=>by
  simp only[bV,U.ae C];grind
 refine bc hm C3 aaV ?_;obtain⟨a68,n⟩:=Ey (i:=37) (j2:=h) (a:=o) (M:=p) (b9:=a) (e:=c) (e1:= .i64) (b:= .i64) aaU aaU;have q: ¬(a:Int)=c:=aaU;have s:cn 37 (.ao h o p 37) none (some (.v (.int .i64 (a)))) none=some (.ao h a p 37):=hU aaU;have l2:(List.replicate 32 (R.v (.int .u8 0))++ [R.J [] .nil,.J [] .nil]++ [R.v (.int .i64 0),.v (.int .i64 0)]++ [R.J [] .nil]).length=37:=aaV;have w:(x.take (a*37)).length=a*37:=by rw[a6C];omega
 by_cases c1:(c:Int)=o
 .have n5:=eq_true c1;obtain rfl:c=o:=aaU;have n9:x.drop (c*37)= []:=a7n aaU;rw[n9,a7E];refine dG (aM @n @q @n5 @s) ?_;by_cases aE:a+b<c
  .refine uY E t (m r L) aaU aaU aaU ?_;obtain⟨k,y⟩: ∃k,k=putAt z (a*37) G:=⟨_,rfl⟩;have i:k.length=z.length:=by rw[y,eI _ _ _ aaU]
   rw[<-y];obtain⟨a00,F,P⟩:=uZ (j2:=h) (i:=a+b) (e1:= .i64) aaU Z l2;obtain⟨j,k2,a01,l3⟩:=P (r.set h (.cells k)) k (U.ai _ _ _) aaU;have k3:((a+b:Nat))<(c:Int):=aaU;refine dG (aM @k3 @F @k2 @U.set_set) ?_;refine⟨_,U.a6,U.af C.1 e,.inr ⟨h,a+b,p,_,rfl,e,U.ai _ _ _,aaU,?_,by rw[a6A,w];omega,aaU,j9⟩⟩;grind[putAt,List.take_left',List.length_append,List.length_take]
  .refine fb (C.first aaU) aaU (m r L) V (by rw[w];omega) (by rw[w];omega) λa69 g l4=> ?_;obtain⟨a02,a03,a71,a04⟩:=l4.src;rw[a6A,w,V]at a03;obtain rfl:a02=a+b:=aaU;have k3: ¬((a+b:Nat))<(c:Int):=aaU;refine dG (c2 @a04 @k3) ?_;exact⟨_,U.a6,l4⟩
 have a73:c<o:=aaU;obtain⟨a05,A,B,l5⟩:=oG (i:=37) (j2:=h) (e1:= .i64) aaU Z;have k4:(x.drop (c*37)).length=(o - c)*37:=by rw[a6R];omega
 obtain⟨d,a74⟩: ∃a06,a06=a+b+(o - c):=⟨_,rfl⟩;have a81:(a)+(b)+((o - c:Nat))=(d:Int):=aaU;have H:(a)+(b)=((a+b:Nat):Int):=aaU;have I:((a+b:Nat))+((o - c:Nat))=(d:Int):=aaU;by_cases c2:(p)<(d:Int)
 .have l6:(d) -(a)=((d - a:Nat):Int):=aaU;refine dG (cd @n @q @c1 @s @A @B @H @I @c2 @l6) ?_;refine xz E t aaU aaU aaU λD S a07 K M a08 a09=> ?_;have a10:a+(d - a)=d:=aaU;rw[a10]at M a09|-;have a11:D≠h:=by rintro rfl;rw[K]at E;cases E
  have a13:D≠f:=by rintro rfl;rw[K]at L;cases L
  obtain⟨T,a14⟩: ∃T,T=z.take (a*37)++(List.replicate (d - a) (List.replicate 32 (R.v (.int .u8 0))++ [R.J [] .nil,.J [] .nil]++ [R.v (.int .i64 0),.v (.int .i64 0)]++ [R.J [] .nil])).flatten++a07:=⟨_,rfl⟩;have a15:T.length=S*37:=by grind[List.length_append,lk,List.length_take]
  have N:T.take (a*37)=x.take (a*37):=by grind
  rw[<-a14];have O:cn 37 (.ao D d S 37) (some (.v (.int .i64 (a)))) none none=some (.bE D (a*37) (d - a) (S - a) 37):=gm aaU M aaU;have Q:cn 37 (.ao D d S 37) (some (.v (.int .i64 ((a+b:Nat))))) none none=some (.bE D ((a+b)*37) (d -(a+b)) (S -(a+b)) 37):=gm aaU M aaU;have k5:(r.set D (.cells T)) f=some (.cells u):=by rw[U.an _ _ (a6I a13)];exact L
  have l:=hy (M:=a*37) (j2:=S - a) (i:=d - a) (m _ k5) (U.ai r D (.cells T)) aaU;rw[a6z aaU]at l;obtain⟨k,y⟩: ∃k,k=putAt T (a*37) G:=⟨_,rfl⟩;have i:k.length=T.length:=by rw[y,eI _ _ _ aaU]
  rw[<-y]at l;have a16:(r.set D (.cells k)) h=some (.cells z):=by rw[U.an _ _ (a6I a11)];exact E
  have l7:=hy (M:=(a+b)*37) (j2:=S -(a+b)) (i:=d -(a+b)) (l5 _ z x a16 aaU Y) (U.ai r D (.cells k)) aaU;rw[a6z aaU]at l7;refine dG (py @n @q @c1 @s @A @B @H @I @c2 @l6 @O @Q @l @l7 @U.set_set) ?_;refine⟨_,U.a6,U.af C.1 (U.bI C.1 K),.inr ⟨D,d,S,_,rfl,U.bI C.1 K,U.ai _ _ _,?_,?_,?_,M,a08⟩⟩
  .rw[eI _ _ _ aaU,i,a15]
  .have:=(pP N V k4 aaU).2;rw[show d*37=a*37+b*37+(o - c)*37 by omega,y,show(a+b)*37=a*37+b*37 by omega];exact this
  grind
 have O:cn 37 (.ao h o p 37) none (some (.v (.int .i64 (d)))) none=some (.ao h d p 37):=hU aaU;have Q:cn 37 (.ao h d p 37) (some (.v (.int .i64 (a)))) none none=some (.bE h (a*37) (d - a) (p - a) 37):=gm aaU aaU aaU;have l:cn 37 (.ao h d p 37) (some (.v (.int .i64 ((a+b:Nat))))) none none=some (.bE h ((a+b)*37) (d -(a+b)) (p -(a+b)) 37):=gm aaU aaU aaU;have N:z.take (a*37)=x.take (a*37):=by grind
 by_cases aE:((a+b:Nat))<=(c:Int)
 .have F:=hy (M:=a*37) (j2:=p - a) (i:=d - a) (m r L) E aaU;rw[a6z aaU]at F;obtain⟨k,y⟩: ∃k,k=putAt z (a*37) G:=⟨_,rfl⟩;have i:k.length=z.length:=by rw[y,eI _ _ _ aaU]
  have a83:(k.drop (c*37)).take ((o - c)*37)=x.drop (c*37):=by
   have a18:(z.take (a*37)++G).length=(a+b)*37:=by grind
   rw[y,putAt,show c*37=(a+b)*37+(c*37 -(a+b)*37) by omega,<-a7p,a9h a18,a7p,<-Y,a7T];congr 1
   .omega
   .congr 1;omega
  rw[<-y]at F;have a84:cn 37 (.ao h o p 37) (some (.v (.int .i64 (c)))) none none=some (.bE h (c*37) (o - c) (p - c) 37):=gm aaU aaU aaU;have a19:bV (r.set h (.cells k)) 37 (.bE h (c*37) (o - c) (p - c) 37)=some (o - c,x.drop (c*37)):=by simp only[bV,U.ae (U.ai r h (.cells k))];grind
  have P:=hy (M:=(a+b)*37) (j2:=p -(a+b)) (i:=d -(a+b)) a19 (U.ai r h (.cells k)) aaU;rw[a6z aaU,U.set_set]at P;obtain⟨j,k6⟩: ∃j,j=putAt k ((a+b)*37) (x.drop (c*37)):=⟨_,rfl⟩;have a86:j.length=z.length:=by rw[k6,eI _ _ _ aaU,i]
  rw[<-k6]at P;obtain⟨a00,a27,a29⟩:=uZ (j2:=h) (i:=d) (e1:= .i64) aaU Z l2;obtain⟨W,k2,a01,l3⟩:=a29 (r.set h (.cells j)) j (U.ai _ _ _) aaU;have a30:a05= .bE h (c*37) (o - c) (p - c) 37:=by grind
  subst a30;refine dG (xv @n @q @c1 @s @A @B @H @I @c2 @aE @O @Q @l @F @P @a27 @k2 @U.set_set) ?_;refine⟨_,U.a6,U.af C.1 e,.inr ⟨h,d,p,_,rfl,e,U.ai _ _ _,aaU,?_,?_,aaU,j9⟩⟩
  .rw[l3,k6,y,show d*37=a*37+b*37+(o - c)*37 by omega,show(a+b)*37=a*37+b*37 by omega];exact(pP N V k4 aaU).2
  grind
 .have a34:z≠ []:=by rintro rfl;simp at t;omega
  have a36:u≠ []:=by rintro rfl;simp at n4;omega
  have a38:lh (.bE h ((a+b)*37) (d -(a+b)) (p -(a+b)) 37) (.ao f b l0 37) r=some (.v (.bool false)):=xy rfl rfl l1 (qU E a34) (qU L a36);have F:=hy (M:=(a+b)*37) (j2:=p -(a+b)) (i:=d -(a+b)) (l5 r z x E aaU Y) E aaU;rw[a6z aaU]at F;obtain⟨k,y⟩: ∃k,k=putAt z ((a+b)*37) (x.drop (c*37)):=⟨_,rfl⟩;have i:k.length=z.length:=by rw[y,eI _ _ _ aaU]
  rw[<-y]at F;have k5:(r.set h (.cells k)) f=some (.cells u):=by rw[U.an _ _ (a6I l1)];exact L
  have P:=hy (M:=a*37) (j2:=p - a) (i:=d - a) (m _ k5) (U.ai r h (.cells k)) aaU;rw[a6z aaU,U.set_set]at P;refine dG (nn @n @q @c1 @s @A @B @H @I @c2 @aE @O @Q @l @a38 @F @P @U.set_set) ?_;refine⟨_,U.a6,U.af C.1 e,.inr ⟨h,d,p,_,rfl,e,U.ai _ _ _,?_,?_,?_,aaU,j9⟩⟩
  .rw[eI _ _ _ aaU,i,t]
  .rw[y,show d*37=a*37+b*37+(o - c)*37 by omega,show(a+b)*37=a*37+b*37 by omega];exact(pP N V k4 aaU).1
  grind
theorem ZW (S r:U) (k:List R) (T:R) (c a b:Nat) (V:Int) (s:V=(b:Int)) (F:av S r 37 k T) (e:k.length=c*37) (k5:a<b) (k6:b<=c) (k7:c<=100000):
  AC Tryz.prog 230 [T,.v (.int .i64 (a:Int)),.v (.int .i64 V),.J [] .nil] r λt C=>av S C 37 (k.take (a*37)++k.drop (b*37)) t:=by
 subst s;obtain⟨d,u,h,p,rfl,D,x,f,v,k8,G,g⟩:=F.ao (λw=>by rw[w]at e;simp at e;omega);obtain rfl:c=u:=aaU;have i: ∀C:U,bV C 37 (.J [] .nil)=some (0,[]):=λC=>rfl;refine bc hm C3 aaV ?_;obtain⟨k9,j⟩:=Ey (i:=37) (j2:=d) (a:=c) (M:=h) (b9:=a) (e:=b) (e1:= .i64) (b:= .i64) aaU aaU;have l: ¬(a:Int)=b:=aaU;have m:cn 37 (.ao d c h 37) none (some (.v (.int .i64 (a)))) none=some (.ao d a h 37):=hU aaU;have n:(List.replicate 32 (R.v (.int .u8 0))++ [R.J [] .nil,.J [] .nil]++ [R.v (.int .i64 0),.v (.int .i64 0)]++ [R.J [] .nil]).length=37:=aaV;have A:(k.take (a*37)).length=a*37:=by rw[a6C];omega
 by_cases c1:(b:Int)=c
 .have B:=eq_true c1;obtain rfl:b=c:=aaU;have H:k.drop (b*37)= []:=a7n aaU;rw[H,a7E];refine dG (aM @j @l @B @m) ?_;refine uY x f (i r) aaU aaU aaU ?_;have L:putAt p (a*37) []=p:=by simp[putAt]
  rw[L,U.tb x];obtain⟨I,E,z⟩:=uZ (j2:=d) (i:=a) (e1:= .i64) aaU G n;obtain⟨y,P,K,M⟩:=z r p x f;have N:(a)<(b:Int):=aaU;refine dG (aM @a8A @N @E @P) ?_;refine⟨_,U.a6,U.af F.1 D,.inr ⟨d,a,h,_,rfl,D,U.ai _ _ _,aaU,?_,A,aaU,g⟩⟩;grind
 have l0:b<c:=aaU;obtain⟨O,Q,X,Y⟩:=oG (i:=37) (j2:=d) (e1:= .i64) aaU G;have l1:(k.drop (b*37)).length=(c - b)*37:=by rw[a6R];omega
 obtain⟨o,l2⟩: ∃Z,Z=a+(c - b):=⟨_,rfl⟩;have j9:(a)+((c - b:Nat))=(o:Int):=aaU;have c2: ¬(h)<(o:Int):=aaU;have k0:cn 37 (.ao d c h 37) none (some (.v (.int .i64 (o)))) none=some (.ao d o h 37):=hU aaU;have k1:cn 37 (.ao d o h 37) (some (.v (.int .i64 (a)))) none none=some (.bE d (a*37) (o - a) (h - a) 37):=gm aaU aaU aaU;have l3:p.take (a*37)=k.take (a*37):=by grind
 have aE:(a)<=(b:Int):=aaU;have L:putAt p (a*37) ([])=p:=by simp[putAt]
 have E:=hy (M:=a*37) (j2:=h - a) (i:=o - a) (i r) x aaU;rw[List.take_nil,L,U.tb x]at E;have l4:cn 37 (.ao d c h 37) (some (.v (.int .i64 (b)))) none none=some (.bE d (b*37) (c - b) (h - b) 37):=gm aaU aaU aaU;have k2:O= .bE d (b*37) (c - b) (h - b) 37:=by simp_all
 subst k2;have z:=hy (M:=a*37) (j2:=h - a) (i:=o - a) (Y r p k x aaU v) x aaU;rw[a6z aaU]at z;obtain⟨y,q⟩: ∃y,y=putAt p (a*37) (k.drop (b*37)):=⟨_,rfl⟩;have l5:y.length=p.length:=by rw[q,eI _ _ _ aaU]
 rw[<-q]at z;obtain⟨I,k3,k4⟩:=uZ (j2:=d) (i:=o) (e1:= .i64) aaU G n;obtain⟨W,P,K,M⟩:=k4 (r.set d (.cells y)) y (U.ai _ _ _) aaU;have l6:(([]:List R).length:Int)=0:=rfl;refine dG (nn @j @l @c1 @m @Q @X @Int.add_zero @j9 @c2 @aE @k0 @k1 @E @z @k3 @P @U.set_set) ?_;refine⟨_,U.a6,U.af F.1 D,.inr ⟨d,o,h,_,rfl,D,U.ai _ _ _,aaU,?_,?_,aaU,g⟩⟩;grind[putAt,List.take_left',List.length_append];grind
end Go.Proofs.YtcfpcblgmmeioaaGreat
namespace Go.bD
open Go
structure jT (c:U) (k:Nat) (a:R) (n:Nat) (us:List R):Prop where
 src: ∀b,c.sub b->bV b k a=some (n,us)
 len:fa a=some (.v (.int .i64 (n:Int)))
 one:a.cells= [a]
 full:us.length=n*k
variable{f s e0:U}{g B c0:List R}{e i v M b9 j2:Nat}
def jT.mono {a:R} (b:jT f e a i g) (c:f.sub s):jT s e a i g:=⟨λd h=>b.src d (U.au c h),b.len,b.one,b.full⟩
theorem jT.J {s:U}{b:Nat}{a:List R}{o:Own} (c:aW b a):jT s b (.J a o) a.length (flat a):=⟨λk _=>by
 have:=a6P.2 λd h=>decide_eq_true (c d h);simp only[bV,this,if_true],rfl,rfl,cR c⟩
variable{n b6:R}
theorem av.aj (b:av s f e g n) (k:0<e): ∃a,g.length=a*e/\jT f e n a g:=by
 obtain⟨a,c,_,d⟩:=b.src;refine⟨a,c,λo h=> ?_,d,?_,c⟩
 .obtain⟨p,r,x,_⟩:=(av.mono b h).src;grind
 .rcases b.2 with ⟨_,rfl|rfl⟩|⟨y,a,z,C,rfl,_⟩<;>rfl
variable{t Z:R -> U -> Prop}{b5:FuncId}{m:Program}
theorem AC.nF (h:View f n s b6) (k:AC m b5 (g++b6::B) s t):AC m b5 (g++n::B) f t:=by
 refine k.pre λC o p a r=> ?_;have x:=a.2 g.length n aaV;obtain⟨y,b,D⟩:=h p o _ r x;refine⟨y,?_,b⟩;have c:=a.mono b.le;refine⟨by rw[c.1];simp,λd z E=> ?_⟩;by_cases F:d=g.length;simp_all
 .refine c.2 d z ?_;grind
end Go.bD
namespace Go.Proofs.YtcfpcblgmmeioaaGreat
open Go Go.bD
theorem ZX (a:Nat) (C:a<=100000000) (d:U):
  AC Tryz.prog 337 [.J [] .nil,.v (.int .i64 (a:Int))] d λr x=>av d x 1 [] r:=by
 refine bc hm TO aaV ?_;have h: ¬(a:Int)<0:=aaU;have k:(a:Int) -(0 - 0)=a:=aaU;have o:cn 1 (.J [] .nil) none (some (.v (.int .i64 0))) none=some (.J [] .nil):=xw;by_cases c1:(0:Int)<a
 .refine dG (bh @h @k @c1 @o @aaf) ?_;refine CU aaU aaU aaU λb c D p E y F=> ?_;have z:cn 1 (.ao b a c 1) none (some (.v (.int .i64 0))) none=some (.ao b 0 c 1):=hU (v:=0) aaU;refine dG @z ?_;refine⟨_,U.a6,U.af U.a6 p,.inr ⟨b,0,c,_,rfl,p,U.ai _ _ _,?_,aaV,aaV,aaU,y⟩⟩;simp_all
 .refine dG (bh @h @k @c1 @o @aaf) ?_;exact⟨_,U.a6,av.nil U.a6⟩
def ZY (d:U) (h k:R) (D:Own) (o r:Nat) (V i:List R) (z:jT d 1 h o V) (C:jT d 1 k r i) (k3:o<=100000) (k4:r<=100000):
  AC Tryz.prog 318 [.J [h,k] D] d λB b=>av d b 1 (V++i) B:=by
 refine bc hm Ts aaV ?_;have H:=z.len;have I:=C.len;have u:bJ d 1 (.J [h,k] D) [h,k]:=bJ.J λk5 v=>by
  simp only[a6W,a7V,or_false]at v;rcases v with rfl|rfl
  .rw[z.one];rfl
  .rw[C.one];rfl
 have W:(([h,k].length):Int)=2:=rfl;obtain⟨K,e,M⟩:=u.get 0 h rfl;obtain⟨N,f,O⟩:=u.get 1 k rfl;have w: ∀b,d.sub b->cY false 1 b K=some h:=λb j=>by rw[M.ld b j false 1 aaU (by rw[z.one];simp),z.one];rfl
 have A: ∀b,d.sub b->cY false 1 b N=some k:=λb j=>by rw[O.ld b j false 1 aaU (by rw[C.one];simp),C.one];rfl
 have Q:((0:Nat):Int)=0:=rfl;have X:((1:Nat):Int)=1:=rfl;rw[Q]at e;rw[X]at f;have Y:=w d U.a6;have Z:=A d U.a6;have bh: ¬(o:Int)<0:=aaU;have bx: ¬(o)+(r:Int)<0:=aaU;refine dG @W ?_;refine cm (λa b=>b=d/\a 0= .J [h,k] D/\a 9= .J [h,k] D/\a 10= .v (.int .i64 2)/\((a 11= .v (.int .i64 0)/\a 3= .v (.int .i64 0))\/(a 11= .v (.int .i64 1)/\a 3= .v (.int .i64 o))\/(a 11= .v (.int .i64 2)/\a 3= .v (.int .i64 ((o)+(r))))))
  (λa _=>match a 11 with| .v (.int _ l)=>2 - l.toNat| _=>0) ⟨rfl,?_⟩ ?_
 .refine dG @W ?_;simp
 rintro a m ⟨rfl,E,F,G,n⟩;rcases n with ⟨x,p⟩|⟨x,p⟩|⟨x,p⟩
 .refine dG (cd @E @F @G @x @p @e @Y @H @bh @aab) ?_;simp
 .refine dG (cN @E @F @G @x @p @f @Z @I @bx) ?_;simp
 .have j9:(o)+(r)=((o+r:Nat):Int):=aaU;rw[j9]at p;simp -dsimp -implicitDefEqProofs (disch:=first|omega|assumption|(simp only[bd,Nat.reduceAdd];try omega)) only[go_sem,simprocAttr,-List.reduceReplicate,↓eu,E,F,G,x,p];refine ah (ZX (o+r) aaU _) ?_;intro k6 k7 k0;simp -dsimp -implicitDefEqProofs (disch:=first|omega|assumption|(simp only[bd,Nat.reduceAdd];try omega)) only[go_sem,simprocAttr,-List.reduceReplicate,↓eu,E,F,G,x,p,W];refine cm (λa b=>a 25= .J [h,k] D/\a 26= .v (.int .i64 2)/\((a 27= .v (.int .i64 0)/\av m b 1 [] (a 6))\/(a 27= .v (.int .i64 1)/\av m b 1 V (a 6))\/(a 27= .v (.int .i64 2)/\av m b 1 (V++i) (a 6))))
   (λa _=>match a 27 with| .v (.int _ l)=>2 - l.toNat| _=>0) ?_ ?_
  .simp -dsimp -implicitDefEqProofs (disch:=first|omega|assumption|(simp only[bd,Nat.reduceAdd];try omega)) only[go_sem,simprocAttr,-List.reduceReplicate,↓eu,E,F,G,x,p,W];exact .inl k0
  rintro a g ⟨L,P,n⟩;have S:=z.full;have q:=C.full;rcases n with ⟨y,c⟩|⟨y,c⟩|⟨y,c⟩
  .have T:=w g c.1;generalize s:a 6=k1 at c;simp -dsimp -implicitDefEqProofs (disch:=first|omega|assumption|(simp only[bd,Nat.reduceAdd];try omega)) only[go_sem,simprocAttr,-List.reduceReplicate,↓eu,L,P,y,e,T,s];refine fb c aaU (z.src g c.1) S (by rw[a6G,S];omega) (by rw[a6G,S];omega) λk2 b t=> ?_;simp -dsimp -implicitDefEqProofs (disch:=first|omega|assumption|(simp only[bd,Nat.reduceAdd];try omega)) only[go_sem,simprocAttr,-List.reduceReplicate,↓eu,L,P,y,e,T];exact .inr (.inl t)
  .have T:=A g c.1;generalize s:a 6=k1 at c;simp -dsimp -implicitDefEqProofs (disch:=first|omega|assumption|(simp only[bd,Nat.reduceAdd];try omega)) only[go_sem,simprocAttr,-List.reduceReplicate,↓eu,L,P,y,f,T,s];refine fb c aaU (C.src g c.1) q (by rw[S,q];omega) (by rw[S,q];omega) λk2 b t=> ?_;simp -dsimp -implicitDefEqProofs (disch:=first|omega|assumption|(simp only[bd,Nat.reduceAdd];try omega)) only[go_sem,simprocAttr,-List.reduceReplicate,↓eu,L,P,y,f,T];exact .inr (.inr t)
  .refine dG (aE @L @P @y) ?_;exact⟨_,U.a6,c⟩
def ZZ (a:Nat) (D:a<=100000000) (d:U):
  AC Tryz.prog 338 [.J [] .nil,.v (.int .i64 (a:Int))] d λr x=>av d x 37 [] r:=by
 refine bc hm TQ aaV ?_;have h: ¬(a:Int)<0:=aaU;have k:(a:Int) -(0 - 0)=a:=aaU;have o:cn 37 (.J [] .nil) none (some (.v (.int .i64 0))) none=some (.J [] .nil):=xw;by_cases c1:(0:Int)<a
 .refine dG (bh @h @k @c1 @o @aaf) ?_;refine CU aaU aaU aaU λb c E p F y z=> ?_;have C:cn 37 (.ao b a c 37) none (some (.v (.int .i64 0))) none=some (.ao b 0 c 37):=hU (v:=0) aaU;refine dG @C ?_;refine⟨_,U.a6,U.af U.a6 p,.inr ⟨b,0,c,_,rfl,p,U.ai _ _ _,?_,aaV,aaV,aaU,y⟩⟩;rw[a6A,lk,z];simp;omega
 .refine dG (bh @h @k @c1 @o @aaf) ?_;exact⟨_,U.a6,av.nil U.a6⟩
def a0a (d:U) (h k:R) (D:Own) (o r:Nat) (V i:List R) (z:jT d 37 h o V) (C:jT d 37 k r i) (k3:o<=100000) (k4:r<=100000):
  AC Tryz.prog 319 [.J [h,k] D] d λB b=>av d b 37 (V++i) B:=by
 refine bc hm Tu aaV ?_;have H:=z.len;have I:=C.len;have u:bJ d 1 (.J [h,k] D) [h,k]:=bJ.J λk5 v=>by
  simp only[a6W,a7V,or_false]at v;rcases v with rfl|rfl
  .rw[z.one];rfl
  .rw[C.one];rfl
 have W:(([h,k].length):Int)=2:=rfl;obtain⟨K,e,M⟩:=u.get 0 h rfl;obtain⟨N,f,O⟩:=u.get 1 k rfl;have w: ∀b,d.sub b->cY false 1 b K=some h:=λb j=>by rw[M.ld b j false 1 aaU (by rw[z.one];simp),z.one];rfl
 have A: ∀b,d.sub b->cY false 1 b N=some k:=λb j=>by rw[O.ld b j false 1 aaU (by rw[C.one];simp),C.one];rfl
 have Q:((0:Nat):Int)=0:=rfl;have X:((1:Nat):Int)=1:=rfl;rw[Q]at e;rw[X]at f;have Y:=w d U.a6;have Z:=A d U.a6;have bh: ¬(o:Int)<0:=aaU;have bx: ¬(o)+(r:Int)<0:=aaU;refine dG @W ?_;refine cm (λa b=>b=d/\a 0= .J [h,k] D/\a 9= .J [h,k] D/\a 10= .v (.int .i64 2)/\((a 11= .v (.int .i64 0)/\a 3= .v (.int .i64 0))\/(a 11= .v (.int .i64 1)/\a 3= .v (.int .i64 o))\/(a 11= .v (.int .i64 2)/\a 3= .v (.int .i64 ((o)+(r))))))
  (λa _=>match a 11 with| .v (.int _ l)=>2 - l.toNat| _=>0) ⟨rfl,?_⟩ ?_
 .refine dG @W ?_;simp
 rintro a m ⟨rfl,E,F,G,n⟩;rcases n with ⟨x,p⟩|⟨x,p⟩|⟨x,p⟩
 .refine dG (cd @E @F @G @x @p @e @Y @H @bh @aab) ?_;simp
 .refine dG (cN @E @F @G @x @p @f @Z @I @bx) ?_;simp
 .have j9:(o)+(r)=((o+r:Nat):Int):=aaU;rw[j9]at p;simp -dsimp -implicitDefEqProofs (disch:=first|omega|assumption|(simp only[bd,Nat.reduceAdd];try omega)) only[go_sem,simprocAttr,-List.reduceReplicate,↓eu,E,F,G,x,p];refine ah (ZZ (o+r) aaU _) ?_;intro k6 k7 k0;simp -dsimp -implicitDefEqProofs (disch:=first|omega|assumption|(simp only[bd,Nat.reduceAdd];try omega)) only[go_sem,simprocAttr,-List.reduceReplicate,↓eu,E,F,G,x,p,W];refine cm (λa b=>a 25= .J [h,k] D/\a 26= .v (.int .i64 2)/\((a 27= .v (.int .i64 0)/\av m b 37 [] (a 6))\/(a 27= .v (.int .i64 1)/\av m b 37 V (a 6))\/(a 27= .v (.int .i64 2)/\av m b 37 (V++i) (a 6))))
   (λa _=>match a 27 with| .v (.int _ l)=>2 - l.toNat| _=>0) ?_ ?_
  .simp -dsimp -implicitDefEqProofs (disch:=first|omega|assumption|(simp only[bd,Nat.reduceAdd];try omega)) only[go_sem,simprocAttr,-List.reduceReplicate,↓eu,E,F,G,x,p,W];exact .inl k0
  rintro a g ⟨L,P,n⟩;have S:=z.full;have q:=C.full;rcases n with ⟨y,c⟩|⟨y,c⟩|⟨y,c⟩
  .have T:=w g c.1;generalize s:a 6=k1 at c;simp -dsimp -implicitDefEqProofs (disch:=first|omega|assumption|(simp only[bd,Nat.reduceAdd];try omega)) only[go_sem,simprocAttr,-List.reduceReplicate,↓eu,L,P,y,e,T,s];refine fb c aaU (z.src g c.1) S (by rw[a6G,S];omega) (by rw[a6G,S];omega) λk2 b t=> ?_;simp -dsimp -implicitDefEqProofs (disch:=first|omega|assumption|(simp only[bd,Nat.reduceAdd];try omega)) only[go_sem,simprocAttr,-List.reduceReplicate,↓eu,L,P,y,e,T];exact .inr (.inl t)
  .have T:=A g c.1;generalize s:a 6=k1 at c;simp -dsimp -implicitDefEqProofs (disch:=first|omega|assumption|(simp only[bd,Nat.reduceAdd];try omega)) only[go_sem,simprocAttr,-List.reduceReplicate,↓eu,L,P,y,f,T,s];refine fb c aaU (C.src g c.1) q (by rw[S,q];omega) (by rw[S,q];omega) λk2 b t=> ?_;simp -dsimp -implicitDefEqProofs (disch:=first|omega|assumption|(simp only[bd,Nat.reduceAdd];try omega)) only[go_sem,simprocAttr,-List.reduceReplicate,↓eu,L,P,y,f,T];exact .inr (.inr t)
  .refine dG (aE @L @P @y) ?_;exact⟨_,U.a6,c⟩
def fP (k a:U) (b c:Nat) (d:Except Int (List aq)×ag) (o:R):Prop:=
 match d.1 with
 | .error p=>bq a b c d.2/\Ext b c k a/\p≠0/\o= .aJ [.J [] .nil,.v (.int .i64 p)]
 | .ok bF=> ∃r h,aB bB bF r/\o= .aJ [h,.v (.int .i64 0)]/\dn k a b c d.2 37 (flat r) h/\(bF= []->h= .J [] .nil)
theorem fP.base {d h k:U}{b c:Nat}{o:Except Int (List aq)×ag}{p:R} (a:fP h k b c o p) (r:Ext b c d h):fP d k b c o p:=by
 unfold fP at a|-;split at a
 .exact⟨a.1,r.trans a.2.1,a.2.2⟩
 grind[dn.base]
variable{n b6:R}{f s e0:U}{e i v M b9 j2:Nat}
theorem fP.shape {a:Except Int (List aq)×ag} (d:fP f s e i a n): ∃b c,n= .aJ [b,.v (.int .i64 c)]:=by grind[fP]
def a0b (b:U) (d k:Nat) (h:ag) (E:bq b d k h) (a:List (List Int)) (o:List R) (p:Own) (c:Nat) (F:1<=c) (G:c<=8) (r:aB isRow a o) (L:a.length<=100000):
  AC Tryz.prog 226 [.J o p,.bG 52 [dJ d c] []] b λx P=>fP b P d k (oF h c a) x:=by
 refine bc hm Rc aaV ?_;have S:=r.len;refine aj @S ?_;refine ah (uX a.length aaU b) ?_;rintro _ b ⟨rfl,rfl⟩;refine bT ?_;have y:a1.bS a.length<=100000:=by unfold a1.bS;omega
 refine ah (Es a o p (a1.bS a.length) b r L y) ?_;rintro _ T ⟨z,gs,V,rfl,W⟩;refine bT ?_;have C:=mB (g:=a1.bS a.length) (l:=a);refine ah (Ev T d k h (E.mono z) _ gs V c F G W (λe f=>by have:=C.2 e f;omega) (by rw[C.1];exact y)) ?_;intro x i g;have D:=fP.base (o:=oF h c a) g (Ext.of z);obtain⟨j,l,rfl⟩:=D.shape;refine bT ?_;exact⟨_,U.a6,D⟩
def EB (d p:U) (b h:Nat) (k:ag) (D:bq d b h k) (c:List (List Int)) (o:List R) (r:R) (E:av d p 1 (flat o) r) (a:Nat) (F:1<=a) (G:a<=8) (x:aB isRow c o) (L:c.length<=100000):
  AC Tryz.prog 226 [r,.bG 52 [dJ b a] []] p λy z=>fP d z b h (oF k a c) y:=by
 obtain⟨P,S,C⟩:=av.Eo E x;refine AC.nF (g:= []) S ?_;exact(a0b P b h k (D.mono C) c o .any a F G x L).mono λy z T=>fP.base T (Ext.of C)
def a0c (b:U) (d k:Nat) (h:ag) (E:bq b d k h) (a:List (aq)) (o:List R) (p:Own) (c:Nat) (F:1<=c) (G:c<=8) (r:aB bB a o) (L:a.length<=100000):
  AC Tryz.prog 229 [.J o p,.bG 96 [dJ d c] []] b λx P=>fP b P d k (jS h c a) x:=by
 refine bc hm Rj aaV ?_;have S:=r.len;refine aj @S ?_;refine ah (uX a.length aaU b) ?_;rintro _ b ⟨rfl,rfl⟩;refine bT ?_;have y:a1.bS a.length<=100000:=by unfold a1.bS;omega
 refine ah (Eu a o p (a1.bS a.length) b r L y) ?_;rintro _ T ⟨z,gs,V,rfl,W⟩;refine bT ?_;have C:=mB (g:=a1.bS a.length) (l:=a);refine ah (Ew T d k h (E.mono z) _ gs V c F G W (λe f=>by have:=C.2 e f;omega) (by rw[C.1];exact y)) ?_;intro x i g;have D:=fP.base (o:=jS h c a) g (Ext.of z);obtain⟨j,l,rfl⟩:=D.shape;refine bT ?_;exact⟨_,U.a6,D⟩
def EC (d p:U) (b h:Nat) (k:ag) (D:bq d b h k) (c:List (aq)) (o:List R) (r:R) (E:av d p 37 (flat o) r) (a:Nat) (F:1<=a) (G:a<=8) (x:aB bB c o) (L:c.length<=100000):
  AC Tryz.prog 229 [r,.bG 96 [dJ b a] []] p λy z=>fP d z b h (jS k a c) y:=by
 obtain⟨P,S,C⟩:=av.ta E x;refine AC.nF (g:= []) S ?_;exact(a0c P b h k (D.mono C) c o .any a F G x L).mono λy z T=>fP.base T (Ext.of C)
def ED: ∀(a:List aq) (b:gM),(a.foldl ev b).size=b.size+(a.map (·.size)).sum
 | [],b=>by simp
 |c::a,b=>by rw[a7j,ED a];simp[ev];omega
def yp: ∀(b:List (List Int×Bool)) (a:gM),(b.foldl dR a).size=a.size
 | [],a=>rfl
 |c::b,a=>by rw[a7j,yp b];unfold dR;split<;>rfl
def yq (a:bY):(eD a).size=a.rows.length+(a.kids.map (·.size)).sum:=by unfold eD;rw[ED,yp]
structure pQ (d:Nat) (k:aq) (n:bY):Prop where
 ok:dQ d n=true
 eq:k=fm n
 size:k.size=n.rows.length+(n.kids.map (·.size)).sum
 ns:k.size<=1048576
variable{w j3:aq}{b4:bY}
def v7 (a:fI e b4=some w):pQ e w b4:=by
 unfold fI at a;split at a
 .rename_i b;split at a
  .cases a
  .rename_i c;obtain rfl:=a6x a;exact⟨b,rfl,yq b4,by show(eD b4).size<= _;omega⟩
 .cases a
variable{H:ag}
def tc (a:iP H e w=some b4):pQ e w b4/\(b4.kind=2\/b4.kind=3):=by
 unfold iP at a;split at a
 .cases a
 .rename_i d hm;split at a
  .rename_i b;obtain rfl:=a6x a;refine⟨?_,b⟩;unfold dA at hm;split at hm
   .cases hm
   .split at hm
    .cases hm
    .split at hm
     .rename_i c;obtain rfl:=a6x hm;exact v7 c
     .cases hm
  .cases a
theorem pQ.leaf (b:pQ e w b4) (c:b4.kind=2):1<=b4.rows.length/\b4.rows.length<=4/\b4.kids= []/\(∀a∈b4.rows,a.1.length=e/\a.2=true):=by have:=b.ok;simp_all [dQ]
theorem pQ.inner (k:pQ e w b4) (h:b4.kind=3):b4.rows= []/\2<=b4.kids.length/\b4.kids.length<=4/\(∀a∈b4.kids,a.key.length=e/\a≠az/\fl e a=true/\1<=a.size/\a.size<w.size):=by
 have d:=k.ok;unfold dQ at d;have x: ¬b4.kind=1:=by rw[h];decide
 have y: ¬b4.kind=2:=by rw[h];decide
 rw[if_neg x,if_neg y,if_pos h]at d;simp only[a6B,a6P,decide_eq_true_eq,a8d,decide_eq_false_iff_not]at d;obtain⟨⟨_,z⟩,⟨⟨C,D⟩,E⟩,o⟩:=d;have p:=a6F C;have F: ∀a∈b4.kids,1<=a.size:=λa b=>by
  simp_all [fl]
 refine⟨p,D,E,λa b=>⟨(o a b).1,(o a b).2,z a b,F a b,?_⟩⟩;have r:=k.size;rw[p]at r;simp only[a6G]at r;have G: ∀(c:List aq),(∀a∈c,1<=a.size)->(c.length:Int)<=(c.map (·.size)).sum:=by
  intro c
  induction c with
  |nil=>intro _;simp
  |cons L c ih=>grind
 obtain⟨P,S,T⟩:=a8V b;grind
def gv (d:Nat) (b:List Int):Nat->ag->aq->Except Int (List aq)×ag
  |0,c,_=>(.error 21,c)
  |k+1,c,o=>match iP c d o with
    |none=>(.error 21,c)
    |some a=>
      if a.kind=2 then
        (if kE (a.rows.map Prod.fst) b=true then(.error 8,c)
         else oF c d ((a.rows.map Prod.fst).take (eT (a.rows.map Prod.fst) b)++b::(a.rows.map Prod.fst).drop (eT (a.rows.map Prod.fst) b)))
      else match a.kids[hG b a]? with
        |none=>(.error 21,c)
        |some p=>match gv d b k c p with
          |(.error r,h)=>(.error r,h)
          |(.ok x,h)=>jS h d (a.kids.take (hG b a)++(x++a.kids.drop (hG b a+1)))
theorem yr (b:List Int): ∀(a:List (List Int)),a≠ []->a1.cQ bC b a<a.length
 | [],c=>absurd rfl c
 | [_],_=>by simp[a1.cQ]
 | _::d::h,_=>by
  have:=yr b (d::h) aaV;grind[a1.cQ,List.length_cons]
theorem ys (p:Nat) (r:List Int): ∀(d:Nat) (c h:ag) (k:aq) (b:List aq),gv p r d c k=(.ok b,h)->1<=b.length/\b.length<=3
 |0,c,h,k,b,a=>by rw[gv]at a;simp_all
 |d+1,c,h,k,b,a=>by
  rw[gv]at a;split at a
  .simp_all
  rename_i P y;obtain⟨x,z⟩:=tc y;split at a
  .rename_i o;obtain⟨C,D,_⟩:=x.leaf o;split at a
   .simp_all
   .have:=pO a;rw[this];simp only[a6G,a7c,a1.chunks,(mB).1,a1.bS,a6A,a6E,a6C,a6R,a6J];omega
  .rename_i o;obtain⟨_,C,D,_⟩:=x.inner (z.resolve_left o);split at a
   .simp_all
   .rename_i E S;split at a
    .simp_all
    .rename_i F G L;have ih:=ys p r d c G E F L;have:=pO a;rw[this];simp only[a6G,a7c,a1.chunks,(mB).1,a1.bS,a6A,a6C,a6R];omega
end Go.Proofs.YtcfpcblgmmeioaaGreat
