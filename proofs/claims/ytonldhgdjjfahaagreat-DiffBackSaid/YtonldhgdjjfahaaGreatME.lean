import Derived.Test.YtonldhgdjjfahaaGreatMD
set_option linter.all false
set_option maxRecDepth 100000
namespace Go.Proofs.YtonldhgdjjfahaaGreat
open Go Go.Av
structure Kd where
 sum:List UInt8
 lo:List Int
 hi:List Int
 live:Int
 size:Int
 key:List Int
 deriving DecidableEq
def cO:Kd:=⟨List.replicate 32 0,[],[],0,0,[]⟩
structure gM where
 kind:UInt8
 rows:List (List Int×Bool)
 kids:List Kd
 deriving DecidableEq
def v9 (lo hi:List Int) (d:Nat):Bool:=decide (1≤d)&&decide (d≤8)&&decide (lo.length=d)&&decide (hi.length=d)&&(List.range d).all fun i=>decide (lo.getD i 0≤hi.getD i 0)
def xR (d:Nat) (k:Kd):Bool:=
 decide (k=cO)||(!(decide (k.size<1)||decide (1048576<k.size)||decide (k.live<0)||decide (k.size<k.live))&&
  if k.live=0 then decide (k.lo.length=0)&&decide (k.hi.length=0)else v9 k.lo k.hi d)
def py (d:Nat) (n:gM):Bool:=
  n.rows.all (fun r=>decide (r.1.length=d))&&n.kids.all (xR d)&&
  (if n.kind=1 then decide (n.rows.length=1)&&decide (n.kids.length=2)&&n.kids.all (fun k=>decide (k.key.length=0))
   else if n.kind=2 then decide (1≤n.rows.length)&&decide (n.rows.length≤4)&&decide (n.kids.length=0)&&n.rows.all (fun r=>r.2)
   else if n.kind=3 then decide (n.rows.length=0)&&decide (2≤n.kids.length)&&decide (n.kids.length≤4)&&n.kids.all (fun k=>decide (k.key.length=d)&& !decide (k=cO))
   else false)
def zf (r:List Int×Bool):List UInt8:=(if r.2=true then(1:UInt8)else 0)::CX r.1
def xi (k:Kd):List UInt8:=k.sum++(CF k.live.toNat++(CF k.size.toNat++(CX k.lo++(CX k.hi++CX k.key))))
def jJ (n:gM):List UInt8:=n.kind::UInt8.ofNat n.rows.length::(n.rows.flatMap zf++UInt8.ofNat n.kids.length::n.kids.flatMap xi)
def KT (d:Nat) (n:gM):Option (List UInt8):=if py d n=true then some (jJ n)else none
def pB (a b:List Int×List Int):List Int×List Int:=
 if v9 a.1 a.2 a.1.length=true then
  (if v9 b.1 b.2 b.1.length=true then(if a.1.length=b.1.length then(List.zipWith min a.1 b.1,List.zipWith max a.2 b.2)else([],[]))else a)
 else if v9 b.1 b.2 b.1.length=true then b else([],[])
def tE (r:List Int):List Int×List Int:=if 1≤r.length∧r.length≤8 then(r,r)else([],[])
structure Sy where
 live:Int
 size:Int
 bx:List Int×List Int
def wP (y:Sy) (r:List Int×Bool):Sy:=if r.2=true then {y with live:=y.live+1,bx:=pB y.bx (tE r.1)}else y
def Ab (y:Sy) (k:Kd):Sy:=⟨y.live+k.live,y.size+k.size,pB y.bx (k.lo,k.hi)⟩
def vN (n:gM):Sy:=n.kids.foldl Ab (n.rows.foldl wP ⟨0,n.rows.length,([],[])⟩)
def keyOf (n:gM):List Int:=if n.kind=2 then(n.rows.headD ([],false)).1 else if n.kind=3 then(n.kids.headD cO).key else []
def q9 (b:List UInt8):List UInt8:=yR (preB 80 [b])
def vO (n:gM):Kd:=⟨q9 (jJ n),(vN n).bx.1,(vN n).bx.2,(vN n).live,(vN n).size,keyOf n⟩
def sS (d:Nat) (n:gM):Option Kd:=if py d n=true then(if 1048576<(vN n).size then none else some (vO n))else none
def wV (d:Nat) (r:Rd):(List Int×Bool)×Rd:=(((ve d (CG r).2).1,(CG r).1),(ve d (CG r).2).2)
def vl (d:Nat) (r:Rd):Kd×Rd:=
 let a:=CW r
 let b:=yS 1048576 a.2
 let c:=yS 1048576 b.2
 let x:=ve d c.2
 let y:=ve d x.2
 let z:=ve d y.2
 (⟨a.1,x.1,y.1,(b.1:Int),(c.1:Int),z.1⟩,z.2)
def qu {α:Type} (one:Rd→α×Rd):Nat→Rd→List α→List α×Rd
 |0,r,acc=>(acc,r)
 |n+1,r,acc=>qu one n (one r).2 (acc++ [(one r).1])
def FI (d:Nat) (b:List UInt8):gM×Rd:=
 let k:=jU ⟨b,0⟩
 let n:=jU k.2
 let rs:=qu (wV d) n.1.toNat n.2 []
 let m:=jU rs.2
 let ks:=qu (vl d) m.1.toNat m.2 []
 (⟨k.1,rs.1,ks.1⟩,FP ks.2)
def Iy (d:Nat) (b:List UInt8):Option gM:=
 if(FI d b).2.e=0∧py d (FI d b).1=true∧jJ (FI d b).1=b then some (FI d b).1 else none
abbrev pC (r:List Int):Prop:= ∀x∈r,-9223372036854775808≤x∧x<9223372036854775808
theorem NM (xs r:List UInt8):lZ ⟨xs++r,0⟩ xs.length=(some xs,⟨r,0⟩):=by
 unfold lZ
 rw[if_pos rfl,if_neg (by simp)]
 simp
theorem NN (x:UInt8) (r:List UInt8):jU ⟨x::r,0⟩=(x,⟨r,0⟩):=by
 have:=NM [x] r
 simp only[List.length_singleton,List.singleton_append]at this
 unfold jU
 rw[this];rfl
theorem ai0 (N:Nat) (h:N<18446744073709551616):qj (nP N)=N:=by
 simp only[qj,nP,List.foldl_cons,List.foldl_nil,UInt8.toNat_ofNat',Nat.shiftRight_eq_div_pow]
 omega
theorem abl (n:Int) (h1: -9223372036854775808≤n) (h2:n<9223372036854775808):(BitVec.ofNat 64 (gV n)^^^9223372036854775808#64).toInt=n:=by
 have e:BitVec.ofInt 64 9223372036854775808=9223372036854775808#64:=by decide
 rw[gV,e,BitVec.ofNat_toNat,BitVec.setWidth_eq,BitVec.xor_assoc,BitVec.xor_self,BitVec.xor_zero,BitVec.toInt_ofInt]
 simp[Int.bmod]
 omega
theorem ai1 (n:Int) (r:List UInt8) (h1: -9223372036854775808≤n) (h2:n<9223372036854775808):vM ⟨wU n++r,0⟩=(n,⟨r,0⟩):=by
 have ht:=NM (wU n) r
 rw[Wz]at ht
 unfold vM
 rw[ht]
 simp only
 rw[wU,ai0 _ (by exact(BitVec.ofInt 64 n^^^BitVec.ofInt 64 9223372036854775808).isLt),abl n h1 h2]
theorem ai2 (h r:List UInt8) (hh:h.length=32):CW ⟨h++r,0⟩=(h,⟨r,0⟩):=by
 have ht:=NM h r
 rw[hh]at ht
 unfold CW
 rw[ht];rfl
theorem aed (b:Bool) (r:List UInt8):CG ⟨(if b=true then(1:UInt8)else 0)::r,0⟩=(b,⟨r,0⟩):=by
 unfold CG
 rw[NN]
 cases b<;>rfl
theorem a0c (n:Nat) (hn:n≤1048576) (r:List UInt8):yS 1048576 ⟨CF n++r,0⟩=(n,⟨r,0⟩):=by
 have ht:=NM (CF n) r
 rw[JI]at ht
 unfold yS
 rw[ht]
 have e:qj (CF n)=n:=by
  simp only[qj,CF,List.foldl_cons,List.foldl_nil,UInt8.toNat_ofNat',Nat.shiftRight_eq_div_pow]
  omega
 simp only[e]
 rw[if_neg (by omega)]
theorem a0d: ∀(row acc:List Int) (r:List UInt8),pC row→wO row.length ⟨row.flatMap wU++r,0⟩ acc=(acc++row,⟨r,0⟩)
 | [],acc,r,_=>by simp[wO]
 |x::row,acc,r,h=>by
  have hx:=h x (by simp)
  rw[List.length_cons,wO,List.flatMap_cons,List.append_assoc,ai1 x _ hx.1 hx.2]
  simp only[if_true]
  rw[a0d row _ r (fun y hy=>h y (by simp[hy]))]
  simp
theorem Oe (row:List Int) (d:Nat) (r:List UInt8) (hd:row.length≤d) (a15:row.length≤255) (h:pC row):ve d ⟨CX row++r,0⟩=(row,⟨r,0⟩):=by
 have e:(UInt8.ofNat row.length).toNat=row.length:=by rw[UInt8.toNat_ofNat'];omega
 unfold ve
 have aW: ¬d<row.length:=by omega
 rw[CX,List.cons_append,NN]
 simp only[e,aW,if_false,a0d row [] r h]
 simp
theorem ai3 (x:List Int×Bool) (d:Nat) (r:List UInt8) (hd:x.1.length≤d) (a15:x.1.length≤255) (h:pC x.1):wV d ⟨zf x++r,0⟩=(x,⟨r,0⟩):=by
 unfold wV
 rw[zf,List.cons_append,aed,Oe _ _ _ hd a15 h]
structure Kd.In (d:Nat) (k:Kd):Prop where
 sum:k.sum.length=32
 lo:pC k.lo
 hi:pC k.hi
 key:pC k.key
 llo:k.lo.length≤d
 lhi:k.hi.length≤d
 ai4:k.key.length≤d
 NO:0≤k.live
 live:k.live≤1048576
 NP:0≤k.size
 size:k.size≤1048576
theorem kdA (k:Kd) (d:Nat) (hd:d≤255) (r:List UInt8) (h:k.In d):vl d ⟨xi k++r,0⟩=(k,⟨r,0⟩):=by
 have h1:=h.live;have h2:=h.NO;have h3:=h.size;have h4:=h.NP
 have h5:=h.llo;have h6:=h.lhi;have h7:=h.ai4
 unfold vl
 simp only[xi,List.append_assoc]
 rw[ai2 _ _ h.sum]
 simp only[]
 rw[a0c _ (by omega)]
 simp only[]
 rw[a0c _ (by omega)]
 simp only[]
 rw[Oe _ _ _ h5 (by omega) h.lo]
 simp only[]
 rw[Oe _ _ _ h6 (by omega) h.hi]
 simp only[]
 rw[Oe _ _ _ h7 (by omega) h.key]
 rw[Int.toNat_of_nonneg h2,Int.toNat_of_nonneg h4]
theorem Sq {α:Type} (one:Rd→α×Rd) (B:α→List UInt8) (P:α→Prop) (h1: ∀x r,P x→one ⟨B x++r,0⟩=(x,⟨r,0⟩)): ∀(xs acc:List α) (r:List UInt8),(∀x∈xs,P x)→qu one xs.length ⟨xs.flatMap B++r,0⟩ acc=(acc++xs,⟨r,0⟩)
 | [],acc,r,_=>by simp[qu]
 |x::xs,acc,r,h=>by
  rw[List.length_cons,qu,List.flatMap_cons,List.append_assoc,h1 x _ (h x (by simp))]
  rw[Sq one B P h1 xs _ r (fun y hy=>h y (by simp[hy]))]
  simp
structure gM.In (d:Nat) (n:gM):Prop where
 ok:py d n=true
 rows: ∀r∈n.rows,pC r.1
 kids: ∀k∈n.kids,k.In d
theorem Bt {d:Nat}{n:gM} (h:py d n=true):(∀r∈n.rows,r.1.length=d)∧n.rows.length≤4∧n.kids.length≤4:=by
 unfold py at h
 simp only[Bool.and_eq_true,List.all_eq_true,decide_eq_true_eq]at h
 refine⟨h.1.1,?_⟩
 have h2:=h.2
 split at h2
 ·simp only[Bool.and_eq_true,decide_eq_true_eq]at h2;omega
 split at h2
 ·simp only[Bool.and_eq_true,decide_eq_true_eq]at h2;omega
 split at h2
 ·simp only[Bool.and_eq_true,decide_eq_true_eq]at h2;omega
 ·cases h2
theorem Kb {d:Nat} (hd:d≤255) {n:gM} (h:n.In d):Iy d (jJ n)=some n:=by
 obtain⟨l1,l2,l3⟩:=Bt h.ok
 have e1:(UInt8.ofNat n.rows.length).toNat=n.rows.length:=by rw[UInt8.toNat_ofNat'];omega
 have e2:(UInt8.ofNat n.kids.length).toNat=n.kids.length:=by rw[UInt8.toNat_ofNat'];omega
 have hr:FI d (jJ n)=(n,⟨[],0⟩):=by
  unfold FI jJ
  simp only[NN,e1]
  rw[Sq (wV d) zf (fun x=>x.1.length=d∧pC x.1) (fun x r hx=>ai3 x d r (by omega) (by omega) hx.2) n.rows [] _ (fun x hx=>⟨l1 x hx,h.rows x hx⟩)]
  simp only[NN,e2]
  have:=Sq (vl d) xi (fun k=>k.In d) (fun k r hk=>kdA k d hd r hk) n.kids [] [] h.kids
  rw[List.append_nil]at this
  rw[this]
  simp[FP]
 unfold Iy
 rw[hr]
 simp[h.ok]
def OH (ms:List (List UInt8)) (n:Nat) (d:List UInt8):List Nat:=(List.range n).filter fun i=>decide (yR (ms.getD i [])=d)
def IL (is:List Nat):List AV:=is.map fun i=> .v (.int .i64 ((i:Nat):Int))
abbrev OI:List (Nat×CK):= [(32,.int .u8)]
theorem FA {d:List UInt8} (h:d.length=32):gZ OI (d.map bN):=by
 refine⟨by simp[h],fun c hc=> ?_,?_⟩
 ·rw[List.take_of_length_le (by simp[h])]at hc
  obtain⟨b,_,rfl⟩:=List.mem_map.1 hc
  rfl
 ·show List.drop 32 _= []
  exact List.drop_eq_nil_of_le (by simp[h])
structure PB (s0 s:Hp) (lM:Nat) (ms:List (List UInt8)) (n:Nat) (F:AV→Option AV):Prop where
 sub:s0.sub s
 new:s0 lM=none
 val: ∀d,d.length=32→(OH ms n d= []∧F (dg d)=none)∨(OH ms n d≠ []∧ ∃g c,F (dg d)=some (.sl (IL (OH ms n d)) (.buf g c))∧s0 g=none∧g≠lM∧s g=some (.buf 1 (OH ms n d).length c))
 inj: ∀d d' x x' g c c',d.length=32→d'.length=32→F (dg d)=some (.sl x (.buf g c))→F (dg d')=some (.sl x' (.buf g c'))→d=d'
end Go.Proofs.YtonldhgdjjfahaaGreat
namespace Go.Av
open Go
section
variable {P:Ctx}{f:Fr}{s:Hp}{Kv:AV→Hp→Prop}
theorem aee {x:Operand}:G P (.wS x) f s Kv=jk (Ip (ev f x)) (fj (fun r=>Kv r s) ()):=by
 simp only[G];cases Ip (ev f x)<;>rfl
theorem abm {l n cap k:Nat}:Ip (.mb l n cap k)=some (.v (.int .i64 cap)):=rfl
theorem a8u:Ip (.sl [] .nil)=some (.v (.int .i64 0)):=rfl
def iH (k:Nat) (x:AV) (lo hi mx:Option AV):Option AV:=
 match x with
 | .mb l len cap k'=>match bO lo 0,bO hi len,bO mx cap with
  |some a,some b,some m=>if k'=k∧0≤a∧a≤b∧b≤m∧m≤cap then
    some (if lo.isSome=true then(if a<m then .gK l (a.toNat*k) (b.toNat - a.toNat) k else .sl [] .any)else .mb l b.toNat m.toNat k)
   else none
  | _,_,_=>none
 | .sl [] .nil=>match bO lo 0,bO hi 0,bO mx 0 with
  |some a,some b,some m=>if a=0∧b=0∧m=0 then some (.sl [] .nil)else none
  | _,_,_=>none
 | _=>none
theorem abn {k:Nat}{x:AV}{lo hi mx:Option Operand}:KM f k x lo hi mx=iH k x (lo.map (ev f)) (hi.map (ev f)) (mx.map (ev f)):=by
 simp only[KM,iH,Nw,Option.isSome_map]
 cases x<;>try rfl
theorem afX {k:Nat}{x:Operand}{lo hi mx:Option Operand}:G P (.gu k x lo hi mx) f s Kv=jk (iH k (ev f x) (lo.map (ev f)) (hi.map (ev f)) (mx.map (ev f))) (fj (fun r=>Kv r s) ()):=by
 simp only[G,abn];cases iH k (ev f x) (lo.map (ev f)) (hi.map (ev f)) (mx.map (ev f))<;>rfl
theorem xJ {k l len cap b:Nat}{kd:IntKind} (h:b≤cap):iH k (.mb l len cap k) none (some (.v (.int kd (b:Int)))) none=some (.mb l b cap k):=by
 have:(b:Int)≤cap:=by omega
 simp[iH,bO,intOf,this]
theorem xK {k l len cap a:Nat}{kd:IntKind} (h:a≤len) (h2:len≤cap) (h3:a<cap):iH k (.mb l len cap k) (some (.v (.int kd (a:Int)))) none none=some (.gK l (a*k) (len - a) k):=by
 have h4:(a:Int)<cap:=by omega
 have h5:(a:Int)≤len:=by omega
 have h6:(len:Int)≤cap:=by omega
 simp[iH,bO,intOf,h4,h5,h6]
theorem Zm {k l len cap:Nat}{kd:IntKind} (h:len=cap):iH k (.mb l len cap k) (some (.v (.int kd (len:Int)))) none none=some (.sl [] .any):=by
 subst h;simp[iH,bO,intOf]
theorem a8v {k l len cap a b:Nat}{kd kd':IntKind} (h:a≤b) (h2:b≤cap) (h3:a<cap):iH k (.mb l len cap k) (some (.v (.int kd (a:Int)))) (some (.v (.int kd' (b:Int)))) none=some (.gK l (a*k) (b - a) k):=by
 have h4:(a:Int)<cap:=by omega
 have h5:(a:Int)≤b:=by omega
 have h6:(b:Int)≤cap:=by omega
 simp[iH,bO,intOf,h4,h5,h6]
theorem Rv {k:Nat}{kd:IntKind}:iH k (.sl [] .nil) none (some (.v (.int kd 0))) none=some (.sl [] .nil):=by simp[iH,bO,intOf]
def hpK (r:Option Hp) (C:Hp→Prop):Prop:=
 match r with
 |some s'=>C s'
 |none=>False
theorem a8w {r:Hp}{C:Hp→Prop}{d:jH C}:hpK (some r) (fj C d)=C r:=rfl
def a18 (r:Option (AV×Hp)) (C:AV→Hp→Prop):Prop:=
 match r with
 |some (a,s')=>C a s'
 |none=>False
theorem a70 {a:AV}{r:Hp}{C:AV→Hp→Prop}{d:jH C}:a18 (some (a,r)) (jX C d)=C a r:=rfl
theorem afY {k:Nat}{z:List AV}{x:Operand}:G P (.AB k z x) f s Kv=hpK (Ai k z (ev f x) s) (fj (fun s'=>Kv (.dr []) s') ()):=by
 simp only[G];cases Ai k z (ev f x) s<;>rfl
theorem aef {k:Nat}{x y:Operand}:G P (.pD k x y) f s Kv=a18 (CQ k (ev f x) (ev f y) s) (jX Kv ()):=by
 simp only[G]
 cases CQ k (ev f x) (ev f y) s with
 |none=>rfl
 |some r=>obtain⟨a,s'⟩:=r;rfl
theorem afZ {x y:Operand}:G P (.zr x y) f s Kv=jk (Aj (ev f x) (ev f y) s) (fj (fun r=>Kv r s) ()):=by
 simp only[G];cases Aj (ev f x) (ev f y) s<;>rfl
theorem Zn {k l off n:Nat}{z cs:List AV} (h:s l=some (.cells cs)) (h2:off+n*k≤cs.length):Ai k z (.gK l off n k) s=some (s.set l (.cells (putAt cs off (List.replicate n z).flatten))):=by
 simp[Ai,h,h2]
theorem abo {k:Nat}{z:List AV}{o:Own}:Ai k z (.sl [] o) s=some s:=rfl
theorem yN {k l off n m:Nat}{y:AV}{ys cs:List AV} (hs:hU s k y=some (m,ys)) (h:s l=some (.cells cs)) (h2:off+n*k≤cs.length):CQ k (.gK l off n k) y s=some (.v (.int .i64 (min m n:Nat)),s.set l (.cells (putAt cs off (ys.take (n*k))))):=by
 simp[CQ,hs,h,h2]
theorem a0e {x y:AV}{l l':Nat} (h1:Iq x=some l) (h2:Iq y=some l') (h3:l≠l') (h4:yM s l=true) (h5:yM s l'=true):Aj x y s=some (.v (.bool false)):=by
 simp[Aj,h1,h2,h3,h4,h5]
theorem MG {l:Nat}{cs:List AV} (h:s l=some (.cells cs)) (h2:cs≠ []):yM s l=true:=by
 cases cs with
 |nil=>exact absurd rfl h2
 |cons c cs=>simp[yM,h]
def Kz (k bytes:Nat) (z:List AV) (s:Hp) (x y:AV) (C:AV→Hp→Prop):Prop:=
 match x,y with
  | .mb l n cap k',.v (.int .i64 m)=>match s.read l with
   |some cs=>k'=k∧cs.length=cap*k∧0≤m∧cap<n+m.toNat∧(n+m.toNat)*bytes≤140737488355328∧n+m.toNat≤9223372036854775807∧
    ∀g eD sp,s g=none→n+m.toNat≤eD→eD≤maxLen→sp.length=(eD -(n+m.toNat))*k→C (.mb g (n+m.toNat) eD k) (s.set g (.cells (cs.take (n*k)++(List.replicate m.toNat z).flatten++sp)))
   |none=>False
  | .sl xs o,.v (.int .i64 m)=>xs= []∧o= .nil∧0<m∧m.toNat*bytes≤140737488355328∧m≤9223372036854775807∧
    ∀g eD sp,s g=none→m.toNat≤eD→eD≤maxLen→sp.length=(eD - m.toNat)*k→C (.mb g m.toNat eD k) (s.set g (.cells ((List.replicate m.toNat z).flatten++sp)))
  | _,_=>False
theorem aeg {k bytes:Nat}{z:List AV}{x y:Operand}:G P (.yZ k bytes z x y) f s Kv=Kz k bytes z s (ev f x) (ev f y) (jX Kv ()):=rfl
theorem Zo {k bytes l n cap m:Nat}{z cs:List AV}{C:AV→Hp→Prop}{d:jH C} (h:s l=some (.cells cs)) (h1:cs.length=cap*k) (h2:cap<n+m) (h3:(n+m)*bytes≤140737488355328) (h4:n+m≤9223372036854775807)
  (hC: ∀g eD sp,s g=none→n+m≤eD→eD≤maxLen→sp.length=(eD -(n+m))*k→C (.mb g (n+m) eD k) (s.set g (.cells (cs.take (n*k)++(List.replicate m z).flatten++sp)))):Kz k bytes z s (.mb l n cap k) (.v (.int .i64 (m:Int))) (jX C d):=by
 simp only[Kz,Hp.aV h,Int.toNat_natCast]
 exact⟨trivial,h1,by omega,h2,h3,h4,hC⟩
theorem Yr {k bytes m:Nat}{z:List AV}{C:AV→Hp→Prop}{d:jH C} (h2:0<m) (h3:m*bytes≤140737488355328) (h4:m≤9223372036854775807)
  (hC: ∀g eD sp,s g=none→m≤eD→eD≤maxLen→sp.length=(eD - m)*k→C (.mb g m eD k) (s.set g (.cells ((List.replicate m z).flatten++sp)))):Kz k bytes z s (.sl [] .nil) (.v (.int .i64 (m:Int))) (jX C d):=by
 simp only[Kz,Int.toNat_natCast]
 exact⟨trivial,trivial,by omega,h3,by omega,hC⟩
def View (s:Hp) (r:AV) (s':Hp) (r':AV):Prop:= ∀(H:PH) (w:World) (v:Value),dv H s w→RV H v r→ ∃H',Step H s w H' s' w∧RV H' v r'
theorem AC.view {P:Program}{g:FuncId}{args:List AV}{s:Hp}{R R':AV→Hp→Prop} (h:AC P g args s R) (hv: ∀r s',R r s'→ ∃r' zn,View s' r zn r'∧R' r' zn):AC P g args s R':=
 fun vs w H ha hs=>(h vs w H ha hs).mono fun _ _ hh=>by
  obtain⟨v,r,H',s',he,dT,hr,hR⟩:=hh
  obtain⟨r',zn,h1,h2⟩:=hv r s' hR
  obtain⟨H2,h3,h4⟩:=h1 H' _ v dT.holds hr
  exact⟨v,r',H2,zn,he,dT.trans h3,h4,h2⟩
theorem View.refl {s:Hp}{r:AV}:View s r s r:=fun H w v hh hr=>⟨H,.refl hh,hr⟩
theorem View.sl {s:Hp}{xs:List AV}{o:Own}:View s (.sl xs o) s (.sl xs .any):=fun H w v hh hr=>by
 refine⟨H,.refl hh,?_⟩
 cases hr with
 |jo a cap ow ha ho=>exact .jo a cap .any ha trivial
 |sl b off len cap k fW xs ow hk hlen ft gr db hH hR ho=>exact .sl b off len cap k fW xs .any hk hlen ft gr db hH hR trivial
theorem View.mb {s:Hp}{l n cap k:Nat}{cs:List AV} (hl:s l=some (.cells cs)) (hn:n*k≤cs.length):View s (.mb l n cap k) (s.set l (.ro cs)) (.sl (nN k n cs) .any):=fun H w v hh hr=>by
 obtain⟨H',st⟩:=Step.freeze hh hl
 exact⟨H',st,RV.frozen st.holds (Hp.bt _ _ _) hn (hr.mono st.le)⟩
theorem JM {n:Nat}{cs:List AV}:nN 1 n cs=cs.take n:=by simp[nN]
theorem a4k {k n m:Nat}{cs:List AV} (h:n≤m):nN k n (cs.take (m*k))=nN k n cs:=by
 unfold nN
 by_cases hk:k=1
 ·subst hk;simp only[if_true,Nat.mul_one];rw[List.take_take,Nat.min_eq_left h]
 ·simp only[hk,if_false]
  refine List.map_congr_left fun i hi=> ?_
  have hi:i<n:=by simpa using hi
  have h1:i*k+k≤m*k:=by
   have:(i+1)*k≤m*k:=Nat.mul_le_mul_right _ (by omega)
   rw[Nat.add_mul,Nat.one_mul]at this;exact this
  rw[List.drop_take,List.take_take,Nat.min_eq_left (by omega)]
theorem View.mo {s0 s:Hp}{k:Nat}{us:List AV}{a:AV} (h:MO s0 s k us a): ∃n s',us.length=n*k∧s0.sub s'∧View s a s' (.sl (nN k n us) .any):=by
 obtain⟨h1,h2⟩:=h
 rcases h2 with ⟨rfl,rfl|rfl⟩|⟨l,n,cap,cs,rfl,q2,q3,q4,q5,q6,q7,q8⟩
 ·refine⟨0,s,by simp,h1,?_⟩
  have:nN k 0 []= []:=by unfold nN;split<;>simp
  rw[this];exact View.sl
 ·refine⟨0,s,by simp,h1,?_⟩
  have:nN k 0 []= []:=by unfold nN;split<;>simp
  rw[this];exact View.sl
 ·refine⟨n,s.set l (.ro cs),q6,fun x o hx=> ?_,?_⟩
  ·have bI:x≠l:=by rintro rfl;rw[q2]at hx;cases hx
   rw[Hp.aX _ _ bI];exact h1 x o hx
  ·rw[←q5,a4k (Nat.le_refl n)]
   exact View.mb q3 (by rw[q4];exact Nat.mul_le_mul_right _ q7)
theorem View.trans {s s' s2:Hp}{r r' r2:AV} (h:View s r s' r') (h2:View s' r' s2 r2):View s r s2 r2:=fun H w v hh hr=>by
 obtain⟨H1,EC,e1⟩:=h H w v hh hr
 obtain⟨H2,Oy,e2⟩:=h2 H1 w v EC.holds e1
 exact⟨H2,EC.trans Oy,e2⟩
theorem View.dr {s s':Hp}{a a':AV}{pre post:List AV} (h:View s a s' a'):View s (.dr (pre++a::post)) s' (.dr (pre++a'::post)):=fun H w v hh hr=>by
 cases hr with
 |dr vs cs hl hR=>
  have hj:=hR pre.length a (by simp)
  obtain⟨H1,EC,e1⟩:=h H w _ hh hj
  refine⟨H1,EC,.dr vs _ (by simpa using hl) fun j u hu=> ?_⟩
  by_cases U0:j=pre.length
  ·subst U0
   have:u=a':=by simpa using hu.symm
   subst this;exact e1
  ·refine(hR j u ?_).mono EC.le
   rw[List.getElem?_append]at hu⊢
   split
   ·rename_i h1;rw[if_pos h1]at hu;exact hu
   ·rename_i h1
    rw[if_neg h1]at hu
    obtain⟨i,hi⟩: ∃i,j - pre.length=i+1:=⟨j - pre.length - 1,by omega⟩
    rw[hi]at hu⊢
    simpa using hu
theorem View.agg {s s':Hp}{a a':AV}{pre post:List AV} (h1:a'.one=true) (h:View s a s' a'):View s (.agg (pre++a::post)) s' (.agg (pre++a'::post)):=fun H w v hh hr=>by
 cases hr with
 |agg vs cs db hl hR=>
  have hj:=hR pre.length a (by simp)
  obtain⟨H1,EC,e1⟩:=h H w _ hh hj
  refine⟨H1,EC,.agg vs _ (fun c hc=> ?_) (by simpa using hl) fun j u hu=> ?_⟩
  ·rcases List.mem_append.1 hc with hc|hc
   ·exact db c (List.mem_append_left _ hc)
   ·rcases List.mem_cons.1 hc with rfl|hc
    ·exact h1
    ·exact db c (List.mem_append_right _ (List.mem_cons_of_mem _ hc))
  by_cases U0:j=pre.length
  ·subst U0
   have:u=a':=by simpa using hu.symm
   subst this;exact e1
  ·refine(hR j u ?_).mono EC.le
   rw[List.getElem?_append]at hu⊢
   split
   ·rename_i h1;rw[if_pos h1]at hu;exact hu
   ·rename_i h1
    rw[if_neg h1]at hu
    obtain⟨i,hi⟩: ∃i,j - pre.length=i+1:=⟨j - pre.length - 1,by omega⟩
    rw[hi]at hu⊢
    simpa using hu
end
def rW:=
 And.intro @aee<|
 And.intro @afX<|
 And.intro @afY<|
 And.intro @aef<|
 And.intro @afZ<|
 And.intro @aeg<|
 And.intro @a8w<|
 And.intro @a70<|
 And.intro @abm<|
 And.intro @a8u<|
 @Rv
theorem sw {A C D:Prop} (a:A) (h:D) (e:A→C=D:=by intro x;simp -dsimp -implicitDefEqProofs (disch:=first|omega|assumption|(simp only[rL,Nat.reduceAdd];try omega)) only[go_sem,simprocAttr,-List.reduceReplicate,↓rW,x];rfl):C:=(e a).mpr h
theorem Dp {C D:Prop} (h:D) (e:C=D:=by simp -dsimp -implicitDefEqProofs (disch:=first|omega|assumption|(simp only[rL,Nat.reduceAdd];try omega)) only[go_sem,simprocAttr,-List.reduceReplicate,↓rW];rfl):C:=e.mpr h
end Go.Av
namespace Go.Proofs.YtonldhgdjjfahaaGreat
open Go Go.Av
theorem JN (bs:List UInt8) (o:Own) (s:Hp) (hb:bs.length≤70368744177664):
  AC Tryz.prog 23 [.sl (bs.map bN) o] s fun r s'=> ∃o',dx s s' 1 (bs.map bN) o'∧r= .sl (bs.map bN) o':=by
 refine Kn fun hn=> ?_
 have ho:o= .nil→bs= []:=fun e=>by subst e;simpa using hn (bs.map bN) (by simp)
 refine cR hm acC (by simp) ?_
 simp -dsimp -implicitDefEqProofs (disch:=first|omega|assumption|(simp only[rL,Nat.reduceAdd];try omega)) only[go_sem,simprocAttr,-List.reduceReplicate,↓FH]
 refine HG (fun h=>by rw[ho h];rfl) (fun h=> ?_) ?_
 ·have yf:bs= []:=by simpa using h
  subst yf
  refine sr @Bool.not_false ?_
  exact⟨s,Hp.aH,.nil,dx.nil Hp.aH,rfl⟩
 ·refine dD ?_
  refine ik Hp.aH (by simp[dS]) fun o1 s1 h1=> ?_
  refine dD ?_
  refine Cy (xs:= []) h1 (by simp;omega) fun o2 s2 h2=> ?_
  refine sr @List.nil_append.{0} ?_
  exact⟨s2,Hp.aH,o2,by simpa using h2,rfl⟩
theorem a4V (a b:List UInt8) (o o2:Own) (s:Hp):
  AC Tryz.prog 140 [.sl (a.map bN) o,.sl (b.map bN) o2] s fun x s'=>s'=s∧x= .v (.bool (decide (a=b))):=by
 refine cR hm a9I (by simp) ?_
 have e1:CV (.sl (a.map bN) o)=some (vL a):=JS
 have e2:CV (.sl (b.map bN) o2)=some (vL b):=JS
 refine sr (c3 @e1 @e2 @XI) ?_
 exact⟨s,Hp.aH,rfl⟩
theorem a71 (b:List UInt8) (o:Own) (s:Hp) (hb:b.length≤1000000000000):
  AC Tryz.prog 159 [.sl (b.map bN) o] s fun r s'=> ∃o',dx s s' 1 ((preB 80 [b]).map bN) o'∧r= .sl ((preB 80 [b]).map bN) o':=by
 refine cR hm a9V (by simp) ?_
 refine dD ?_
 refine ik Hp.aH (by simp[dS,AV.cells]) fun o1 s1 h1=> ?_
 refine dD ?_
 refine bC (a8l 80 [(b,o)] o1 (by simp[preB,chunk,nP];omega) s1) ?_
 rintro _ s2 ⟨o2,h2,rfl⟩
 refine dD ?_
 exact⟨s2,Hp.aH,o2,h2.base h1.sub,rfl⟩
theorem HA (b:List UInt8):(q9 b).length=32:=Q8 _
theorem XM (b:List UInt8) (o:Own) (s:Hp) (hb:b.length≤1000000000000):
  AC Tryz.prog 128 [.sl (b.map bN) o] s fun r s'=>s'=s∧r=dg (q9 b):=by
 refine cR hm a9w (by simp) ?_
 refine dD ?_
 refine cP fun l nl=> ?_
 refine dD ?_
 refine bC (a71 b o _ hb) ?_
 rintro _ s1 ⟨o1,h1,rfl⟩
 have hl:=h1.sub _ _ (Hp.bt _ _ _)
 refine dD ?_
 refine bC (a8o _ o1 (by simp[preB,chunk,nP];omega) _) ?_
 rintro _ _ ⟨rfl,rfl⟩
 have hq:(yR (preB 80 [b])).length=32:=HA b
 have hdc: ∀d,(dg d).cells=d.map bN:=fun _=>rfl
 rw[show q9 b=yR (preB 80 [b])from rfl]
 generalize yR (preB 80 [b])=d at*
 have TQ:(d.map bN).length=32:=by simp[hq]
 refine sr (c4 @hdc @TQ @hq (Hp.dG hl)) ?_
 refine⟨s,Hp.bT (Hp.cy (Hp.bT Hp.aH nl) h1.sub) nl,rfl,?_⟩
 rw[List.take_of_length_le (by omega)];rfl
structure bW where
 m:List UInt8→Option (List UInt8)
 a:List UInt8
 b:List UInt8
 one:Bool
def bW.new:bW:=⟨fun _=>none,[],[],false⟩
def pF (S:bW) (b:List UInt8):bW:=
 match S.m (q9 b)with
 |none=> {S with m:=fun d=>if d=q9 b then some b else S.m d}
 |some AJ=>if S.one=false∧AJ≠b then {S with a:=AJ,b:=b,one:=true}else S
abbrev a19 (lM:Nat) (S:bW) (oa ob:Own):List AV:= [.qS lM,.sl (S.a.map bN) oa,.sl (S.b.map bN) ob,.v (.bool S.one)]
structure eC (s:Hp) (l lM:Nat) (S:bW):Prop where
 at_: ∃oa ob,s l=some (.cells (a19 lM S oa ob))
 mp: ∃F,Ie s lM OI F∧ ∀d,d.length=32→match S.m d with
  |none=>F (dg d)=none
  |some b=>b.length≤1000000000000∧ ∃o,F (dg d)=some (.sl (b.map bN) o)
 la:S.a.length≤1000000000000
 lb:S.b.length≤1000000000000
def Ext (l lM:Nat) (s s':Hp):Prop:= ∀x o,x≠l→x≠lM→s x=some o→s' x=some o
theorem Ext.refl {l lM:Nat}{s:Hp}:Ext l lM s s:=fun _ _ _ _ h=>h
theorem Ext.of {l lM:Nat}{s s':Hp} (h:s.sub s'):Ext l lM s s':=fun x o _ _ hx=>h x o hx
theorem Ext.trans {l lM:Nat}{s s' s2:Hp} (h:Ext l lM s s') (h2:Ext l lM s' s2):Ext l lM s s2:=fun x o h3 h4 h5=>h2 x o h3 h4 (h x o h3 h4 h5)
theorem eC.ne {s:Hp}{l lM:Nat}{S:bW} (h:eC s l lM S):l≠lM:=by
 obtain⟨oa,ob,h1⟩:=h.at_
 obtain⟨F,⟨us,c,h2,_⟩,_⟩:=h.mp
 rintro rfl;rw[h1]at h2;cases h2
theorem eC.mono {s s':Hp}{l lM:Nat}{S:bW} (h:eC s l lM S) (hs:s.sub s'):eC s' l lM S:=by
 obtain⟨oa,ob,h1⟩:=h.at_
 obtain⟨F,⟨us,c,h2,h3⟩,h4⟩:=h.mp
 exact⟨⟨oa,ob,hs _ _ h1⟩,⟨F,⟨us,c,hs _ _ h2,h3⟩,h4⟩,h.la,h.lb⟩
theorem eC.other {s s':Hp}{l lM:Nat}{S:bW} (h:eC s l lM S) (hl:s' l=s l) (hM:s' lM=s lM):eC s' l lM S:=by
 obtain⟨oa,ob,h1⟩:=h.at_
 obtain⟨F,⟨us,c,h2,h3⟩,h4⟩:=h.mp
 exact⟨⟨oa,ob,by rw[hl];exact h1⟩,⟨F,⟨us,c,by rw[hM];exact h2,h3⟩,h4⟩,h.la,h.lb⟩
theorem a5E {l:Nat}:(AV.qS l).cells= [.qS l]:=rfl
theorem XN (s:Hp):AC Tryz.prog 7 [] s fun r s'=> ∃l lM,s l=none∧s lM=none∧r= .ptr l 0∧eC s' l lM bW.new∧s.sub s':=by
 refine cR hm afh (by simp) ?_
 refine dD ?_
 refine cP fun lM nM=> ?_
 have e4: ∀a b c d x:AV,putAt [a,b,c,d] 0 [x]= [x,b,c,d]:=fun _ _ _ _ _=>rfl
 have e5: ∀cs,(AV.agg cs).cells=cs:=fun _=>rfl
 refine sr (c3 @a5E @e4 @e5) ?_
 refine cP fun l nl=> ?_
 refine sr @e5 ?_
 have bI:l≠lM:=by rintro rfl;rw[Hp.bt]at nl;cases nl
 have n0:s l=none:=by rw[Hp.aX _ _ bI]at nl;exact nl
 refine⟨_,Hp.aH,l,lM,n0,nM,rfl,⟨⟨.nil,.nil,by rw[Hp.bt];rfl⟩,⟨_,⟨[],0,by rw[Hp.aX _ _ (Ne.symm bI),Hp.bt],A9.new⟩,fun d _=>rfl⟩,by simp[bW.new],by simp[bW.new]⟩,Hp.bT (Hp.bT Hp.aH nM) n0⟩
theorem vA {d:List UInt8}:(dg d).cells=d.map bN:=rfl
theorem a72 (s:Hp) (l lM:Nat) (S:bW) (hS:eC s l lM S) (d:List UInt8) (hd:d.length=32):
  AC Tryz.prog 27 [.ptr l 0,dg d] s fun r s'=>s.sub s'∧match S.m d with
   |none=>r= .dr [.sl [] .nil,.v (.int .i64 9)]
   |some b=> ∃o,r= .dr [.sl (b.map bN) o,.v (.int .i64 0)]:=by
 obtain⟨⟨oa,ob,h1⟩,⟨F,hA,hF⟩,_,_⟩:=hS
 have hF:=hF d hd
 have iv:(d.map bN).length=32:=by simp[hd]
 refine cR hm acF (by simp) ?_
 refine sr (c2 @vA @iv) ?_
 refine cP fun l3 n3=> ?_
 have s1:=Hp.bT (o:= .cells (d.map bN)) (Hp.aH (s:=s)) n3
 have mg:Ie (s.set l3 (.cells (d.map bN))) lM OI F:=by obtain⟨us,c,q1,q2⟩:=hA;exact⟨us,c,s1 _ _ q1,q2⟩
 have g1:=s1 _ _ h1
 have e:cK true 32 (d.map bN)=dg d:=by rw[cK,if_pos rfl,List.take_of_length_le (by omega)];rfl
 refine sr (c5 @vA @iv @hd (Hp.aV g1) @e) ?_
 refine XH mg (FA hd) (fun v hv=> ?_) (fun hn=> ?_)
 ·cases hm:S.m d with
  |none=>rw[hm]at hF;rw[show F (.agg (d.map bN))=F (dg d)from rfl,hF]at hv;cases hv
  |some b=>
   rw[hm]at hF
   obtain⟨hb,o,hF⟩:=hF
   rw[show F (.agg (d.map bN))=F (dg d)from rfl,hF]at hv
   obtain rfl:=Option.some.inj hv
   refine sr (c2 @vA @iv) ?_
   refine bC (JN b o _ (by omega)) ?_
   rintro _ s2 ⟨o2,h2,rfl⟩
   refine dD ?_
   exact⟨s2,Hp.aH,Hp.cy s1 h2.sub,o2,rfl⟩
 ·cases hm:S.m d with
  |none=>
   refine sr (c2 @vA @iv) ?_
   exact⟨_,Hp.aH,s1⟩
  |some b=>
   rw[hm]at hF
   obtain⟨hb,o,hF⟩:=hF
   rw[show F (.agg (d.map bN))=F (dg d)from rfl,hF]at hn;cases hn
theorem a4W (s:Hp) (l lM:Nat) (S:bW) (hS:eC s l lM S):
  AC Tryz.prog 10 [.ptr l 0] s fun r s'=>s.sub s'∧ ∃oa ob,r= .dr [.sl (S.a.map bN) oa,.sl (S.b.map bN) ob,.v (.bool S.one)]:=by
 have la:=hS.la;have lb:=hS.lb
 obtain⟨oa,ob,h1⟩:=hS.at_
 refine cR hm acq (by simp) ?_
 refine sr (Hp.aV h1) ?_
 refine bC (JN S.a oa _ (by omega)) ?_
 rintro _ s1 ⟨o1,h2,rfl⟩
 have g1:=h2.sub _ _ h1
 refine sr (Hp.aV g1) ?_
 refine bC (JN S.b ob _ (by omega)) ?_
 rintro _ s2 ⟨o2,h3,rfl⟩
 have g2:=h3.sub _ _ g1
 refine sr (Hp.aV g2) ?_
 exact⟨s2,Hp.aH,Hp.cy h2.sub h3.sub,o1,o2,rfl⟩
theorem a73 (s:Hp) (l lM:Nat) (S:bW) (hS:eC s l lM S) (b:List UInt8) (o:Own) (hb:b.length≤1000000000000):
  AC Tryz.prog 99 [.ptr l 0,.sl (b.map bN) o] s fun r s'=>r=dg (q9 b)∧eC s' l lM (pF S b)∧Ext l lM s s':=by
 have bI:=hS.ne
 refine cR hm adB (by simp) ?_
 refine dD ?_
 refine cP fun l4 n4=> ?_
 have s1:=Hp.bT (o:= .cells (List.replicate 32 (.v (.int .u8 0)))) (Hp.aH (s:=s)) n4
 have c4:(s.set l4 (.cells (List.replicate 32 (.v (.int .u8 0))))) l4= _:=Hp.bt _ _ _
 refine dD ?_
 generalize s.set l4 (.cells (List.replicate 32 (.v (.int .u8 0))))=sA at*
 refine bC (XM b o _ hb) ?_
 rintro _ sB ⟨rfl,rfl⟩
 refine dD ?_
 refine cP fun l5 n5=> ?_
 have d45:l4≠l5:=by rintro rfl;rw[c4]at n5;cases n5
 have iv:=HA b
 have hP: ∀d,pF S b=pF S b→d=q9 b→d.length=32:=fun d _ h=>by rw[h];exact iv
 generalize hd:q9 b=d at*
 have zg:(d.map bN).length=32:=by simp[iv]
 have e5:putAt (List.replicate 32 (AV.v (.int .u8 0))) 0 (d.map bN)=d.map bN:=by
  rw[putAt,List.take_zero,List.nil_append,zg,List.drop_eq_nil_of_le (by simp),List.append_nil]
 refine sr (c5 @vA @zg @iv @e5 @Hp.set_set) ?_
 have s2:=Hp.bT (o:= .cells (d.map bN)) (Hp.aH (s:=sB)) n5
 have c5:(sB.set l5 (.cells (d.map bN))) l5= _:=Hp.bt _ _ _
 have ED:=s2 _ _ c4
 have nU:=hS.mono (Hp.cy s1 s2)
 have xg:Ext l lM s (sB.set l5 (.cells (d.map bN))):=Ext.of (Hp.cy s1 s2)
 have dl4:l4≠l:=by rintro rfl;obtain⟨_,_,h⟩:=hS.at_;rw[h]at n4;cases n4
 have dl5:l5≠l:=by rintro rfl;obtain⟨_,_,h⟩:=hS.at_;rw[s1 _ _ h]at n5;cases n5
 have dM4:l4≠lM:=by rintro rfl;obtain⟨_,⟨_,_,h,_⟩,_⟩:=hS.mp;rw[h]at n4;cases n4
 have dM5:l5≠lM:=by rintro rfl;obtain⟨_,⟨_,_,h,_⟩,_⟩:=hS.mp;rw[s1 _ _ h]at n5;cases n5
 obtain⟨oa,ob,h1⟩:=nU.at_
 obtain⟨F,hA,hF⟩:=nU.mp
 have C1:=hF d iv
 have e:cK true 32 (d.map bN)=dg d:=by rw[cK,if_pos rfl,List.take_of_length_le (by omega)];rfl
 clear hP
 have fin: ∀s':Hp,eC s' l lM (pF S b)→Ext l lM s s'→eC (s'.set l4 (.cells (d.map bN))) l lM (pF S b)∧Ext l lM s (s'.set l4 (.cells (d.map bN))):=by
  intro s' sn BW
  refine⟨sn.other (Hp.aX _ _ (Ne.symm dl4)) (Hp.aX _ _ (Ne.symm dM4)),fun x o h1 h2 h3=> ?_⟩
  have hx:x≠l4:=by rintro rfl;rw[n4]at h3;cases h3
  rw[Hp.aX _ _ hx];exact BW x o h1 h2 h3
 have yg:sB l=some (.cells (a19 lM S oa ob)):=by rw[Hp.aX _ _ (Ne.symm dl5)]at h1;exact h1
 refine sr (c6 @vA @zg @iv (Hp.aV yg) (Hp.aV c5) @e) ?_
 refine XH hA (FA iv) (fun v hv=> ?_) (fun hn=> ?_)
 ·cases hm:S.m d with
  |none=>rw[hm]at C1;rw[show F (.agg (d.map bN))=F (dg d)from rfl,C1]at hv;cases hv
  |some AJ=>
   rw[hm]at C1
   obtain⟨J0,ow,C1⟩:=C1
   rw[show F (.agg (d.map bN))=F (dg d)from rfl,C1]at hv
   obtain rfl:=Option.some.inj hv
   have vJ:pF S b=if S.one=false∧AJ≠b then {S with a:=AJ,b:=b,one:=true}else S:=by unfold pF;rw[hd,hm]
   refine sr (c6 @vA @zg @iv (Hp.aV yg) (Hp.aV c5) @e) ?_
   cases J8:S.one with
   |true=>
    refine sr (c9 @vA @zg @iv (Hp.aV yg) (Hp.aV c5) (Hp.dG c4) @e @e5 @J8) ?_
    rw[J8]at vJ
    rw[if_neg (by simp)]at vJ
    rw[vJ]at fin⊢
    exact⟨_,Hp.aH,fin _ nU xg⟩
   |false=>
    refine sr (c7 @vA @zg @iv (Hp.aV yg) (Hp.aV c5) @e @J8) ?_
    refine bC (a4V AJ b ow o _) ?_
    rintro _ _ ⟨rfl,rfl⟩
    by_cases Gp:AJ=b
    ·refine sr (gP @vA @zg @iv (Hp.aV yg) (Hp.aV c5) (Hp.dG c4) @e @e5 @J8 @Gp) ?_
     rw[if_neg (by simp[Gp])]at vJ
     rw[vJ]at fin⊢
     exact⟨_,Hp.aH,fin _ nU xg⟩
    ·refine sr (gP @vA @zg @iv (Hp.aV yg) (Hp.aV c5) (Hp.dG c4) @e @e5 @J8 @Gp) ?_
     rw[if_pos ⟨J8,Gp⟩]at vJ
     refine bC (JN b o _ (by omega)) ?_
     rintro _ sD ⟨o2,h2,rfl⟩
     have g1:=h2.sub _ _ h1
     have g4:=h2.sub _ _ ED
     have g5:=h2.sub _ _ c5
     have hAD:=hA
     have p1: ∀a b c d x:AV,putAt [a,b,c,d] 1 [x]= [a,x,c,d]:=fun _ _ _ _ _=>rfl
     have p2: ∀a b c d x:AV,putAt [a,b,c,d] 2 [x]= [a,b,x,d]:=fun _ _ _ _ _=>rfl
     have p3: ∀a b c d x:AV,putAt [a,b,c,d] 3 [x]= [a,b,c,x]:=fun _ _ _ _ _=>rfl
     refine sr (oS @vA @zg @iv (Hp.dG g1) (Hp.aV g5) (Hp.dG g4) @e @e5 @p1 @p2 @p3 @Hp.set_set) ?_
     have key: ∀U1,U1=Ob.cells [.qS lM,.sl (AJ.map bN) ow,.sl (b.map bN) o2,.v (.bool true)]→eC (sD.set l U1) l lM (pF S b)∧Ext l lM s (sD.set l U1):=by
      rintro _ rfl
      obtain⟨us,c,q1,q2⟩:=hA
      rw[vJ]
      refine⟨⟨⟨ow,o2,Hp.bt _ _ _⟩,⟨F,⟨us,c,by rw[Hp.aX _ _ (Ne.symm bI)];exact h2.sub _ _ q1,q2⟩,hF⟩,J0,hb⟩,fun x ob h3 h4 h5=> ?_⟩
      rw[Hp.aX _ _ h3];exact h2.sub _ _ (xg x ob h3 h4 h5)
     obtain⟨k1,k2⟩:=key _ rfl
     exact⟨_,Hp.aH,fin _ k1 k2⟩
 ·cases hm:S.m d with
  |some AJ=>
   rw[hm]at C1
   obtain⟨J0,ow,C1⟩:=C1
   rw[show F (.agg (d.map bN))=F (dg d)from rfl,C1]at hn;cases hn
  |none=>
   have vJ:pF S b= {S with m:=fun d=>if d=q9 b then some b else S.m d}:=by unfold pF;rw[hd,hm]
   refine sr (c6 @vA @zg @iv (Hp.aV yg) (Hp.aV c5) @e) ?_
   refine bC (JN b o _ (by omega)) ?_
   rintro _ sD ⟨o2,h2,rfl⟩
   have g1:=h2.sub _ _ h1
   have g4:=h2.sub _ _ ED
   have g5:=h2.sub _ _ c5
   have hAD:Ie sD lM OI F:=by obtain⟨us,c,q1,q2⟩:=hA;exact⟨us,c,h2.sub _ _ q1,q2⟩
   refine sr (c6 @vA @zg @iv (Hp.aV g1) (Hp.aV g5) @e) ?_
   refine a6Q hAD (FA iv) fun Dq nF=> ?_
   have g5':(sD.set lM Dq) l5=some (.cells (d.map bN)):=by rw[Hp.aX _ _ dM5];exact g5
   have OJ:(sD.set lM Dq) l4=some (.cells (List.replicate 32 (.v (.int .u8 0)))):=by rw[Hp.aX _ _ dM4];exact g4
   refine sr (c9 @vA @zg @iv (Hp.aV g5) (Hp.aV g5') (Hp.dG g4) (Hp.dG OJ) @e @e5) ?_
   have k1:eC (sD.set lM Dq) l lM (pF S b):=by
    rw[vJ]
    refine⟨⟨oa,ob,by rw[Hp.aX _ _ bI];exact g1⟩,⟨_,nF,fun d' IH=> ?_⟩,hS.la,hS.lb⟩
    simp only[hd]
    by_cases Lj:d'=d
    ·subst Lj
     rw[if_pos rfl]
     exact⟨hb,o2,MQ⟩
    ·rw[if_neg Lj]
     rw[show(AV.agg (d.map bN))=dg d from rfl,I4 (fun h=>Lj (a08 h))]
     exact hF d' IH
   have k2:Ext l lM s (sD.set lM Dq):=fun x ob h3 h4 h5=>by
    rw[Hp.aX _ _ h4];exact h2.sub _ _ (xg x ob h3 h4 h5)
   exact⟨_,Hp.aH,fin _ k1 k2⟩
theorem HV {a b:List Int}:bA (a++b)=bA a++bA b:=by simp[bA]
theorem oJ {xs:List Int}{o:Own}{i:Nat}{v:Int} (h:xs[i]? =some v):kQ 1 (.sl (bA xs) o) (.v (.int .i64 (i:Int)))=some (.eJ [.v (.int .i64 v)]):=by
 have h0:(0:Int)≤(i:Int):=by omega
 have gr:(bA xs)[i]? =some (.v (.int .i64 v)):=by simp[bA,h]
 simp only[kQ,h0,if_true,Int.toNat_natCast,gr]
 rw[qR (k:=1) rfl];rfl
theorem uj {s:Hp}{v:Int}:k9 false 1 s (.eJ [.v (.int .i64 v)])=some (.v (.int .i64 v)):=rfl
theorem a8x {s:Hp}{r:List Int}{o:Own}:hU s 1 (.sl (bA r) o)=some (r.length,bA r):=by
 have h:((bA r).all fun e=>decide (e.cells.length=1))=true:=by simp[bA,AV.cells]
 have h2:flat (bA r)=bA r:=by induction r with
  |nil=>rfl
  |cons a r ih=>simp only[bA,List.map_cons,flat,List.flatMap_cons]at ih⊢;rw[ih (by simp[AV.cells])];rfl
 simp[hU,h,h2,kP]
theorem QL (r:List Int) (o:Own) (s:Hp) (hb:r.length≤1000000000000):
  AC Tryz.prog 131 [.sl (bA r) o] s fun a s'=>MO s s' 1 (bA r) a:=by
 refine Kn fun hn=> ?_
 have ho:o= .nil→r= []:=fun e=>by subst e;simpa[bA] using hn (bA r) (by simp)
 refine cR hm a9z (by simp) ?_
 simp -dsimp -implicitDefEqProofs (disch:=first|omega|assumption|(simp only[rL,Nat.reduceAdd];try omega)) only[go_sem,simprocAttr,-List.reduceReplicate,↓FH]
 refine HG (fun h=>by rw[ho h];rfl) (fun h=> ?_) ?_
 ·have yf:r= []:=by simpa[bA] using h
  subst yf
  refine sr @Bool.not_false ?_
  exact⟨s,Hp.aH,MO.nil Hp.aH⟩
 ·refine sr @HR ?_
  refine lX (MO.zero (Hp.aH (s:=s))) (by omega) a8x (by rw[kP];omega) (by simp[kP];omega) (by simp[kP];omega) fun a s' h=> ?_
  refine dD ?_
  exact⟨s',Hp.aH,by simpa using h⟩
theorem Nx {s0 s:Hp}{r:List Int}{a:AV} (h:MO s0 s 1 (bA r) a): ∃s',s0.sub s'∧View s a s' (.sl (bA r) .any):=by
 obtain⟨n,s',h1,h2,h3⟩:=View.mo h
 rw[JM,List.take_of_length_le (by omega)]at h3
 exact⟨s',h2,h3⟩
theorem MH (r:List Int) (o:Own) (s:Hp) (hb:r.length≤1000000000000):
  AC Tryz.prog 131 [.sl (bA r) o] s fun a s'=>s.sub s'∧a= .sl (bA r) .any:=
 (QL r o s hb).view fun a s' h=>by
  obtain⟨s2,h2,h3⟩:=Nx h
  exact⟨_,s2,h3,h2,rfl⟩
theorem MI (a b:List Int) (o o2:Own) (s:Hp) (ha:a.length≤1000000000000):
  AC Tryz.prog 32 [.sl (bA a) o,.sl (bA b) o2] s fun x s'=>s'=s∧x= .v (.bool (decide (a=b))):=by
 refine cR hm acK (by simp) ?_
 have la:=kP (r:=a)
 have lb:=kP (r:=b)
 by_cases c:a.length=b.length
 ·have c':(a.length:Int)=b.length:=by omega
  refine sr (c3 @la @lb @c') ?_
  rw[←c']
  refine fS (fun f s'=> ∃j:Nat,j≤a.length∧s'=s∧f 0= .sl (bA a) o∧f 1= .sl (bA b) o2∧f 12= .v (.int .i64 a.length)∧f 13= .v (.int .i64 j)∧a.take j=b.take j)
   (fun f _=>match f 13 with| .v (.int _ n)=>(a.length - n).toNat| _=>0) ⟨0,by omega,rfl,?_⟩ ?_
  ·exact sz @List.take_zero.{0}
  ·rintro f sA ⟨j,hj,rfl,f0,f1,f12,f13,ht⟩
   by_cases aW:(j:Int)<a.length
   ·have e1:a[j]? =some a[j]:=List.getElem?_eq_getElem (by omega)
    have e2:b[j]? =some b[j]:=List.getElem?_eq_getElem (by omega)
    have t1:a.take (j+1)=a.take j++ [a[j]]:=by rw[List.take_add_one,e1];rfl
    have t2:b.take (j+1)=b.take j++ [b[j]]:=by rw[List.take_add_one,e2];rfl
    have bI:a[j]'(by omega)≠b[j]'(by omega)→a≠b:=fun h h2=>h (by simp[h2])
    generalize a[j]'(by omega)=x at e1 t1 bI
    generalize b[j]'(by omega)=y at e2 t2 bI
    by_cases hx:x=y
    ·simp -dsimp -implicitDefEqProofs (disch:=first|omega|assumption|(simp only[rL,Nat.reduceAdd];try omega)) only[go_sem,simprocAttr,-List.reduceReplicate,f0,f1,f12,f13,aW,oJ e1,oJ e2,uj,hx]
     exact⟨⟨j+1,by omega,by simp,by rw[t1,t2,ht,hx]⟩,by omega⟩
    ·simp -dsimp -implicitDefEqProofs (disch:=first|omega|assumption|(simp only[rL,Nat.reduceAdd];try omega)) only[go_sem,simprocAttr,-List.reduceReplicate,f0,f1,f12,f13,aW,oJ e1,oJ e2,uj,hx]
     have:a≠b:=bI hx
     exact⟨sA,Hp.aH,by simp[this]⟩
   ·obtain rfl:j=a.length:=by omega
    refine sr (c5 @f0 @f1 @f12 @f13 @aW) ?_
    rw[List.take_length,c,List.take_length]at ht
    exact⟨sA,Hp.aH,by simp[ht]⟩
 ·have c': ¬(a.length:Int)=b.length:=by omega
  refine sr (c3 @la @lb @c') ?_
  have:a≠b:=by rintro rfl;exact c rfl
  exact⟨s,Hp.aH,by simp[this]⟩
abbrev C2 (lo hi:List Int) (o1 o2:Own):AV:= .agg [.sl (bA lo) o1,.sl (bA hi) o2]
theorem a74 (n:Nat) (fn:FuncId) (ds cs:List AV) (s:Hp) (p:Nat→Bool) (hn:n≤1000000000000) (cj:A5 Tryz.prog fn=true)
  (hf: ∀i:Nat,i<n→AC Tryz.prog fn (ds++ [.v (.int .i64 (i:Int))]++cs) s fun r s'=>s'=s∧r= .v (.bool (p i))):
  AC Tryz.prog 187 [.v (.int .i64 (n:Int)),.eU fn ds cs] s fun r s'=>s'=s∧r= .v (.bool ((List.range n).all p)):=by
 refine cR hm aak (by simp) ?_
 refine dD ?_
 refine fS (fun f s'=> ∃i:Nat,i≤n∧s'=s∧(List.range i).all p=true∧f 0= .v (.int .i64 (n:Int))∧f 1= .eU fn ds cs∧f 6= .v (.int .i64 (n:Int))∧f 7= .v (.int .i64 (i:Int)))
  (fun f _=>match f 7 with| .v (.int _ m)=>n - m.toNat| _=>0) ⟨0,by omega,rfl,rfl,?_⟩ ?_
 ·exact nE
 rintro f sA ⟨i,hi,rfl,ha,f0,f1,f6,f7⟩
 by_cases aW:(i:Int)<n
 ·refine sr (c5 @f0 @f1 @f6 @f7 @aW) ?_
  refine zT cj (hf i (by omega)) ?_
  rintro _ _ ⟨rfl,rfl⟩
  cases hp:p i with
  |true=>
   refine sr (c6 @f0 @f1 @f6 @f7 @aW @Bool.not_true) ?_
   refine⟨⟨i+1,by omega,?_,by simp⟩,by omega⟩
   rw[List.range_succ,List.all_append,ha];simp[hp]
  |false=>
   refine sr (c6 @f0 @f1 @f6 @f7 @aW @Bool.not_false) ?_
   refine⟨_,Hp.aH,rfl,?_⟩
   have:(List.range n).all p=false:=by
    rw[List.all_eq_false]
    exact⟨i,by simp;omega,by simp[hp]⟩
   rw[this]
 ·obtain rfl:i=n:=by omega
  refine sr (c5 @f0 @f1 @f6 @f7 @aW) ?_
  exact⟨_,Hp.aH,rfl,by rw[ha]⟩
theorem a4l (s:Hp) (l:Nat) (lo hi:List Int) (o1 o2:Own) (i:Nat) (hl:s.read l=some [.sl (bA lo) o1,.sl (bA hi) o2]) (h1:i<lo.length) (h2:i<hi.length):
  AC Tryz.prog 188 [.v (.int .i64 (i:Int)),.ptr l 0] s fun r s'=>s'=s∧r= .v (.bool (decide (lo.getD i 0≤hi.getD i 0))):=by
 refine cR hm aal (by simp) ?_
 have e1:lo[i]? =some (lo.getD i 0):=by simp[List.getD,h1]
 have e2:hi[i]? =some (hi.getD i 0):=by simp[List.getD,h2]
 generalize lo.getD i 0=x at e1
 generalize hi.getD i 0=y at e2
 simp -dsimp -implicitDefEqProofs (disch:=first|omega|assumption|(simp only[rL,Nat.reduceAdd];try omega)) only[go_sem,simprocAttr,-List.reduceReplicate,hl,oJ e1,oJ e2,uj]
 exact⟨s,Hp.aH,rfl⟩
theorem Qj (s:Hp) (lo hi:List Int) (o1 o2:Own) (d:Nat) (hd:d≤1000000000000):
  AC Tryz.prog 160 [C2 lo hi o1 o2,.v (.int .i64 (d:Int))] s fun r s'=>s'=s∧r= .v (.bool (v9 lo hi d)):=by
 refine cR hm a9W (by simp) ?_
 have la:=kP (r:=lo)
 have lb:=kP (r:=hi)
 refine dD ?_
 refine cP fun l n=> ?_
 unfold v9
 by_cases c1:(d:Int)<1
 ·have OK: ¬1≤d:=by omega
  refine sr (c2 @c1 @OK) ?_
  exact⟨s,Hp.bT Hp.aH n,by simp[OK]⟩
 have OK:1≤d:=by omega
 by_cases c2:(8:Int)<d
 ·have uE: ¬d≤8:=by omega
  simp -dsimp -implicitDefEqProofs (disch:=first|omega|assumption|(simp only[rL,Nat.reduceAdd];try omega)) only[go_sem,simprocAttr,-List.reduceReplicate,c1,c2]
  exact⟨s,Hp.bT Hp.aH n,by simp[uE]⟩
 have uE:d≤8:=by omega
 by_cases c3:(lo.length:Int)=d
 ·have yh:lo.length=d:=by omega
  by_cases c4:(hi.length:Int)=d
  ·have ED:hi.length=d:=by omega
   refine sr (c6 @c1 @c2 @c3 @c4 @la @lb) ?_
   refine bC (a74 d _ _ _ _ (fun i=>decide (lo.getD i 0≤hi.getD i 0)) hd (by kernel_rfl) fun i wW=>a4l _ l lo hi o1 o2 i ?_ (by omega) (by omega)) ?_
   ·simp[Hp.read,Hp.bt]
   rintro _ _ ⟨rfl,rfl⟩
   refine dD ?_
   exact⟨s,Hp.bT Hp.aH n,rfl,by simp[OK,uE,yh,ED]⟩
  ·have ED: ¬hi.length=d:=by omega
   refine sr (c6 @c1 @c2 @c3 @c4 @la @lb) ?_
   exact⟨s,Hp.bT Hp.aH n,by simp[ED]⟩
 ·have yh: ¬lo.length=d:=by omega
  refine sr (c4 @c1 @c2 @c3 @la) ?_
  exact⟨s,Hp.bT Hp.aH n,by simp[yh]⟩
theorem a8y (s:Hp) (r:List Int) (o:Own) (hr:r.length≤1000000000000):
  AC Tryz.prog 130 [.sl (bA r) o] s fun x s'=>s.sub s'∧ ∃o1 o2,x=C2 (tE r).1 (tE r).2 o1 o2:=by
 refine cR hm a9y (by simp) ?_
 have la:=kP (r:=r)
 refine dD ?_
 refine cP fun l n=> ?_
 unfold tE
 have p2: ∀a b c d:AV,putAt [a,b] 0 [c,d]= [c,d]:=fun _ _ _ _=>rfl
 have e0: ∀cs,(AV.agg cs).cells=cs:=fun _=>rfl
 have em: ∀a b,cK true 2 [a,b]= .agg [a,b]:=fun _ _=>rfl
 by_cases c1:(r.length:Int)<1
 ·refine sr (c5 @c1 @la @p2 @e0 @em) ?_
  rw[if_neg (by omega)]
  exact⟨_,Hp.aH,Hp.bT Hp.aH n,.nil,.nil,rfl⟩
 by_cases c2:(8:Int)<r.length
 ·refine sr (c6 @c1 @c2 @la @p2 @e0 @em) ?_
  rw[if_neg (by omega)]
  exact⟨_,Hp.aH,Hp.bT Hp.aH n,.nil,.nil,rfl⟩
 refine sr (c3 @c1 @c2 @la) ?_
 refine bC (MH r o _ hr) ?_
 rintro _ s1 ⟨h1,rfl⟩
 refine sr (c3 @c1 @c2 @la) ?_
 refine bC (MH r o _ hr) ?_
 rintro _ s2 ⟨h2,rfl⟩
 have g:=h2 _ _ (h1 _ _ (Hp.bt _ _ _))
 have q1: ∀a b c:AV,putAt [a,b] 0 [c]= [c,b]:=fun _ _ _=>rfl
 have q2: ∀a b c:AV,putAt [a,b] 1 [c]= [a,c]:=fun _ _ _=>rfl
 have e1: ∀x o,(AV.sl x o).cells= [.sl x o]:=fun _ _=>rfl
 refine sr (c7 (Hp.dG g) @p2 @q1 @q2 @e0 @e1 @em) ?_
 rw[if_pos (by omega)]
 exact⟨_,Hp.aH,Hp.bT (Hp.cy (Hp.bT Hp.aH n) (Hp.cy h1 h2)) n,.any,.any,rfl⟩
theorem a5F (s:Hp) (lo hi Lz J9:List Int) (o1 o2 o3 o4:Own) (h1:lo.length≤1000000000000) (h2:hi.length≤1000000000000):
  AC Tryz.prog 101 [C2 lo hi o1 o2,C2 Lz J9 o3 o4] s fun r s'=>s'=s∧r= .v (.bool (decide (lo=Lz)&&decide (hi=J9))):=by
 refine cR hm a9o (by simp) ?_
 refine dD ?_
 refine cP fun l2 n2=> ?_
 refine dD ?_
 refine cP fun l3 n3=> ?_
 have d:l2≠l3:=by rintro rfl;rw[Hp.bt]at n3;cases n3
 have d':=Ne.symm d
 have AK:s l3=none:=by rw[Hp.aX _ _ d']at n3;exact n3
 have dm:=Hp.bT (o:= .ro [.sl (bA Lz) o3,.sl (bA J9) o4]) (Hp.bT (o:= .ro [.sl (bA lo) o1,.sl (bA hi) o2]) (Hp.aH (s:=s)) n2) AK
 refine dD ?_
 refine bC (MI lo Lz o1 o3 _ h1) ?_
 rintro _ _ ⟨rfl,rfl⟩
 by_cases c:lo=Lz
 ·refine sr (c4 @c @Hp.aX @d @d') ?_
  refine bC (MI hi J9 o2 o4 _ h2) ?_
  rintro _ _ ⟨rfl,rfl⟩
  refine sr @c ?_
  exact⟨s,Hp.bT (Hp.bT Hp.aH n2) AK,by simp⟩
 ·refine sr @c ?_
  exact⟨s,Hp.bT (Hp.bT Hp.aH n2) AK,by simp⟩
def LA (s s':Hp) (x y:List Int) (a b:AV):Prop:= ∃s1,MO s s1 1 (bA x) a∧MO s1 s' 1 (bA y) b
theorem DZ {s0 s:Hp}{k:Nat}{us:List AV}{a:AV} (h:MO s0 s k us a):a.cells= [a]:=by
 obtain⟨_,⟨_,rfl|rfl⟩|⟨_,_,_,_,rfl,_⟩⟩:=h<;>rfl
theorem BD {s0 s:Hp}{k l2:Nat}{us:List AV}{a:AV}{o ob:Ob} (h:MO s0 s k us a) (hl:s0 l2=some o):MO (s0.set l2 ob) (s.set l2 ob) k us a:=by
 obtain⟨h1,h2⟩:=h
 refine⟨Hp.A3 h1,?_⟩
 rcases h2 with h2|⟨l,n,cap,cs,q1,q2,q3,q4⟩
 ·exact .inl h2
 ·have bI:l≠l2:=by rintro rfl;rw[q2]at hl;cases hl
  exact .inr ⟨l,n,cap,cs,q1,by rw[Hp.aX _ _ bI];exact q2,by rw[Hp.aX _ _ bI];exact q3,q4⟩
theorem Qt (s:Hp) (lo hi:List Int) (o1 o2:Own) (h1:lo.length≤1000000000000) (h2:hi.length≤1000000000000):
  AC Tryz.prog 161 [C2 lo hi o1 o2] s fun r s'=> ∃a b,r= .agg [a,b]∧LA s s' lo hi a b:=by
 refine cR hm a9X (by simp) ?_
 refine dD ?_
 refine cP fun l1 n1=> ?_
 refine dD ?_
 refine cP fun l2 n2=> ?_
 have d:l1≠l2:=by rintro rfl;rw[Hp.bt]at n2;cases n2
 have d':=Ne.symm d
 have LB:s l2=none:=by rw[Hp.aX _ _ d']at n2;exact n2
 have e0: ∀cs,(AV.agg cs).cells=cs:=fun _=>rfl
 have dm:=Hp.bT (o:= .cells [.sl [] .nil,.sl [] .nil]) (Hp.bT (o:= .cells [.sl (bA lo) o1,.sl (bA hi) o2]) (Hp.aH (s:=s)) n1) LB
 refine sr (c4 @e0 @Hp.aX @d @d') ?_
 refine bC (QL lo o1 _ h1) ?_
 intro a s1 m1
 have c1:s1 l1=some (.cells [.sl (bA lo) o1,.sl (bA hi) o2]):=m1.1 _ _ (by rw[Hp.aX _ _ d,Hp.bt])
 have c2:s1 l2=some (.cells [.sl [] .nil,.sl [] .nil]):=m1.1 _ _ (Hp.bt _ _ _)
 refine sr (Hp.aV c1) ?_
 refine bC (QL hi o2 _ h2) ?_
 intro b s2 m2
 have d1:=m2.1 _ _ c1
 have d2:=m2.1 _ _ c2
 have q1: ∀a b c:AV,putAt [a,b] 0 [c]= [c,b]:=fun _ _ _=>rfl
 have q2: ∀a b c:AV,putAt [a,b] 1 [c]= [a,c]:=fun _ _ _=>rfl
 have p2: ∀a b c d:AV,putAt [a,b] 0 [c,d]= [c,d]:=fun _ _ _ _=>rfl
 have em: ∀a b,cK true 2 [a,b]= .agg [a,b]:=fun _ _=>rfl
 refine sr (c9 (Hp.aV d1) (Hp.dG d2) (DZ m1) (DZ m2) @q1 @q2 @p2 @e0 @em) ?_
 refine⟨_,Hp.aH,a,b,rfl,s1.set l2 (.cells [a,b]),?_,BD m2 c2⟩
 have:=BD (ob:= .cells [a,b]) m1 (Hp.bt _ _ _)
 rw[Hp.set_set]at this
 exact this.base (Hp.bT (Hp.bT Hp.aH n1) LB)
def mix (g:Int→Int→Int) (a b:List Int) (i:Nat):List Int:=(List.zipWith g a b).take i++a.drop i
theorem X8 {g:Int→Int→Int}{a b:List Int}{i:Nat} (h:a.length=b.length) (hi:i≤a.length):(mix g a b i).length=a.length:=by
 simp[mix,h];omega
theorem Zp {g:Int→Int→Int}{a b:List Int}{i:Nat} (h:a.length=b.length) (hi:i<a.length) (sp:List AV) {v:Int} (hv:v=g (a.getD i 0) (b.getD i 0)):
  putAt (bA (mix g a b i)++sp) i [.v (.int .i64 v)]=bA (mix g a b (i+1))++sp:=by
 have h1:(bA ((List.zipWith g a b).take i)).length=i:=by simp[bA,h];omega
 have hz:(List.zipWith g a b)[i]? =some v:=by
  have e1:a[i]? =some a[i]:=List.getElem?_eq_getElem hi
  have e2:b[i]? =some b[i]:=List.getElem?_eq_getElem (by omega)
  rw[List.getElem?_zipWith,e1,e2,hv];simp[List.getD,e1,e2]
 have hd:a.drop i=a[i]::a.drop (i+1):=List.drop_eq_getElem_cons hi
 have em:bA (mix g a b i)++sp=bA ((List.zipWith g a b).take i)++(.v (.int .i64 a[i])::(bA (a.drop (i+1))++sp)):=by
  unfold mix;rw[HV,hd];simp only[bA,List.map_cons,List.append_assoc,List.cons_append]
 have kC:bA (mix g a b (i+1))++sp=bA ((List.zipWith g a b).take i)++(.v (.int .i64 v)::(bA (a.drop (i+1))++sp)):=by
  unfold mix;rw[List.take_add_one,hz,HV,HV];simp[bA]
 rw[em,kC]
 generalize bA ((List.zipWith g a b).take i)=X at h1
 subst h1
 simp[putAt]
theorem a8z (s:Hp) (gT lP kH m5:List Int) (o1 o2 o3 o4:Own) (h1:gT.length≤1000000000000) (h2:lP.length≤1000000000000) (h3:kH.length≤1000000000000) (h4:m5.length≤1000000000000):
  AC Tryz.prog 129 [C2 gT lP o1 o2,C2 kH m5 o3 o4] s fun r s'=> ∃x y,r= .agg [x,y]∧LA s s' (pB (gT,lP) (kH,m5)).1 (pB (gT,lP) (kH,m5)).2 x y:=by
 refine cR hm a9x (by simp) ?_
 have e0: ∀cs,(AV.agg cs).cells=cs:=fun _=>rfl
 have em: ∀a b,cK true 2 [a,b]= .agg [a,b]:=fun _ _=>rfl
 have q1: ∀a b c:AV,putAt [a,b] 0 [c]= [c,b]:=fun _ _ _=>rfl
 have q2: ∀a b c:AV,putAt [a,b] 1 [c]= [a,c]:=fun _ _ _=>rfl
 have p2: ∀a b c d:AV,putAt [a,b] 0 [c,d]= [c,d]:=fun _ _ _ _=>rfl
 have la:=kP (r:=gT)
 have lb:=kP (r:=kH)
 refine sr @e0 ?_
 refine cP fun lA nA=> ?_
 refine sr @e0 ?_
 refine cP fun lB nB=> ?_
 have OL:lA≠lB:=by rintro rfl;rw[Hp.bt]at nB;cases nB
 have nBs:s lB=none:=by rw[Hp.aX _ _ (Ne.symm OL)]at nB;exact nB
 have dBA:=Ne.symm OL
 refine sr @e0 ?_
 refine cP fun l4 n4=> ?_
 have dB4:lB≠l4:=by rintro rfl;rw[Hp.bt]at n4;cases n4
 have dA4:lA≠l4:=by rintro rfl;rw[Hp.aX _ _ OL,Hp.bt]at n4;cases n4
 have lQ:s l4=none:=by rw[Hp.aX _ _ (Ne.symm dB4),Hp.aX _ _ (Ne.symm dA4)]at n4;exact n4
 have dm:=Hp.bT (o:= .cells [.sl [] .nil,.sl [] .nil]) (Hp.bT (o:= .cells [.sl (bA kH) o3,.sl (bA m5) o4]) (Hp.bT (o:= .cells [.sl (bA gT) o1,.sl (bA lP) o2]) (Hp.aH (s:=s)) nA) nBs) lQ
 have cA:(((s.set lA (.cells [.sl (bA gT) o1,.sl (bA lP) o2])).set lB (.cells [.sl (bA kH) o3,.sl (bA m5) o4])).set l4 (.cells [.sl [] .nil,.sl [] .nil])) lA=some (.cells [.sl (bA gT) o1,.sl (bA lP) o2]):=by rw[Hp.aX _ _ dA4,Hp.aX _ _ OL,Hp.bt]
 have cB:(((s.set lA (.cells [.sl (bA gT) o1,.sl (bA lP) o2])).set lB (.cells [.sl (bA kH) o3,.sl (bA m5) o4])).set l4 (.cells [.sl [] .nil,.sl [] .nil])) lB=some (.cells [.sl (bA kH) o3,.sl (bA m5) o4]):=by rw[Hp.aX _ _ dB4,Hp.bt]
 have c4:(((s.set lA (.cells [.sl (bA gT) o1,.sl (bA lP) o2])).set lB (.cells [.sl (bA kH) o3,.sl (bA m5) o4])).set l4 (.cells [.sl [] .nil,.sl [] .nil])) l4=some (.cells [.sl [] .nil,.sl [] .nil]):=Hp.bt _ _ _
 refine sr @e0 ?_
 generalize ((s.set lA (.cells [.sl (bA gT) o1,.sl (bA lP) o2])).set lB (.cells [.sl (bA kH) o3,.sl (bA m5) o4])).set l4 (.cells [.sl [] .nil,.sl [] .nil])=s0 at*
 have t2: ∀a b:AV,List.take 2 [a,b]= [a,b]:=fun _ _=>rfl
 refine sr (c3 @la @lb @t2) ?_
 refine bC (Qj s0 gT lP o1 o2 gT.length h1) ?_
 rintro _ s0 ⟨rfl,rfl⟩
 refine sr (c6 @la @lb @t2 (Hp.aV cA) (Hp.aV cB) @em) ?_
 refine bC (Qj s0 kH m5 o3 o4 kH.length h3) ?_
 rintro _ s0 ⟨rfl,rfl⟩
 have KU: ∀(s1:Hp) (x y:AV) (X Y:List Int),LA s0 s1 X Y x y→LA s (s1.set l4 (.cells [x,y])) X Y x y:=by
  rintro s1 x y X Y ⟨sM,m1,m2⟩
  refine⟨sM.set l4 (.cells [x,y]),?_,BD m2 (m1.1 _ _ c4)⟩
  refine(BD (ob:= .cells [x,y]) m1 c4).base fun z o hz=> ?_
  have bI:z≠l4:=by rintro rfl;rw[lQ]at hz;cases hz
  rw[Hp.aX _ _ bI];exact dm z o hz
 unfold pB
 cases hA:v9 gT lP gT.length with
 |true=>
  cases hB:v9 kH m5 kH.length with
  |false=>
   refine sr (c7 @la @lb @t2 (Hp.aV cA) (Hp.aV cB) @em @Bool.not_false) ?_
   refine bC (Qt _ gT lP o1 o2 h1 h2) ?_
   rintro _ s1 ⟨x,y,rfl,m⟩
   obtain⟨sM,m1,m2⟩:=m
   have g4:=m2.1 _ _ (m1.1 _ _ c4)
   refine sr (c6 (Hp.dG g4) @e0 @q1 @q2 @p2 @em) ?_
   exact⟨_,Hp.aH,x,y,rfl,KU _ _ _ _ _ ⟨sM,m1,m2⟩⟩
  |true=>
   by_cases hl:(gT.length:Int)=kH.length
   ·have gX:gT.length=kH.length:=by omega
    refine sr (c8 @la @lb @t2 (Hp.aV cA) (Hp.aV cB) @em @Bool.not_true @hl) ?_
    rw[if_pos gX]
    have cj:=hA;have z5:=hB
    simp only[v9,Bool.and_eq_true,decide_eq_true_eq]at cj z5
    have l2:lP.length=gT.length:=cj.1.2
    have l3:m5.length=gT.length:=by rw[gX];exact z5.1.2
    have Eo:1≤gT.length:=cj.1.1.1.1
    clear cj z5
    refine bC (Qt _ gT lP o1 o2 h1 h2) ?_
    rintro _ s1 ⟨x,y,rfl,sM,m1,m2⟩
    have gA:=m2.1 _ _ (m1.1 _ _ cA)
    have gB:=m2.1 _ _ (m1.1 _ _ cB)
    have g4:=m2.1 _ _ (m1.1 _ _ c4)
    obtain⟨b1,⟨e1,_⟩|⟨p1,n1,k1,cs1,rfl,u1,v1,w1,t1,z1,y1,x1⟩⟩:=m1
    ·exfalso;have:=congrArg List.length e1;rw[la,List.length_nil]at this;omega
    obtain⟨b2,⟨e1,_⟩|⟨vZ,n2,k2,Dr,rfl,u2,v2,w2,U2,z2,y2,x2⟩⟩:=m2
    ·exfalso;have:=congrArg List.length e1;rw[kP,List.length_nil]at this;omega
    have f1:n1=gT.length:=by rw[la]at z1;omega
    have f2:n2=gT.length:=by rw[kP]at z2;omega
    subst f1
    subst f2
    have U3:p1≠vZ:=by rintro rfl;rw[v1]at u2;cases u2
    have v1':=b2 _ _ v1
    simp only[Nat.mul_one]at w1 w2 t1 U2 y1 y2
    obtain⟨U4,rfl⟩: ∃sp,cs1=bA gT++sp:=⟨cs1.drop gT.length,by rw[←t1,List.take_append_drop]⟩
    obtain⟨U5,rfl⟩: ∃sp,Dr=bA lP++sp:=⟨Dr.drop gT.length,by rw[←U2,List.take_append_drop]⟩
    have d14:p1≠l4:=by rintro rfl;rw[u1]at c4;cases c4
    have d1A:p1≠lA:=by rintro rfl;rw[u1]at cA;cases cA
    have d1B:p1≠lB:=by rintro rfl;rw[u1]at cB;cases cB
    have d24:vZ≠l4:=by rintro rfl;rw[b1 _ _ c4]at u2;cases u2
    have d2A:vZ≠lA:=by rintro rfl;rw[b1 _ _ cA]at u2;cases u2
    have d2B:vZ≠lB:=by rintro rfl;rw[b1 _ _ cB]at u2;cases u2
    have u1s:s p1=none:=Hp.iJ dm u1
    have u2s:s vZ=none:=Hp.iJ (Hp.cy dm b1) u2
    have xh:=Hp.cy dm (Hp.cy b1 b2)
    clear t1 U2 b1 b2 z1 z2 KU
    refine dD ?_
    refine cP fun l7 n7=> ?_
    have d74:l7≠l4:=by rintro rfl;rw[g4]at n7;cases n7
    have d7A:l7≠lA:=by rintro rfl;rw[gA]at n7;cases n7
    have d7B:l7≠lB:=by rintro rfl;rw[gB]at n7;cases n7
    have d71:l7≠p1:=by rintro rfl;rw[v1']at n7;cases n7
    have d72:l7≠vZ:=by rintro rfl;rw[v2]at n7;cases n7
    have U6:s l7=none:=Hp.iJ xh n7
    have ec: ∀a b c d:Nat,(AV.mb a b c d).cells= [.mb a b c d]:=fun _ _ _ _=>rfl
    refine sr (c2 @e0 @p2) ?_
    refine fS (fun f s'=> ∃i:Nat,i≤gT.length∧s.sub s'∧s' lA=some (.cells [.sl (bA gT) o1,.sl (bA lP) o2])∧s' lB=some (.cells [.sl (bA kH) o3,.sl (bA m5) o4])∧s' l4=some (.cells [.sl [] .nil,.sl [] .nil])∧
      s' l7=some (.cells [.mb p1 gT.length k1 1,.mb vZ gT.length k2 1])∧s' p1=some (.cells (bA (mix min gT kH i)++U4))∧s' vZ=some (.cells (bA (mix max lP m5 i)++U5))∧
      f 2= .ptr lA 0∧f 3= .ptr lB 0∧f 4= .ptr l4 0∧f 7= .ptr l7 0∧f 52= .v (.int .i64 gT.length)∧f 53= .v (.int .i64 i))
     (fun f _=>match f 53 with| .v (.int _ m)=>gT.length - m.toNat| _=>0) ⟨0,by omega,?_⟩ ?_
    ·have m0: ∀(g:Int→Int→Int) (a b:List Int),mix g a b 0=a:=fun g a b=>by simp[mix]
     rw[m0,m0]
     refine sr (Gs @Hp.aX @d7A @d7B @d74 @d71 @d72 (Ne.symm d7A) (Ne.symm d7B) (Ne.symm d74) (Ne.symm d71) (Ne.symm d72) @gA @gB @g4 @v1' @v2 @Hp.bt) ?_
     exact Hp.bT xh U6
    rintro f s' ⟨i,hi,hs,c2,c3,c4,c7,OM,zC,f2,f3,f4,f7,f52,f53⟩
    by_cases aW:(i:Int)<gT.length
    ·have Al:i<gT.length:=by omega
     have i1:gT[i]? =some (gT.getD i 0):=by simp[List.getD,Al]
     have i2:kH[i]? =some (kH.getD i 0):=by
       have:i<kH.length:=by omega
       simp[List.getD,this]
     have i3:lP[i]? =some (lP.getD i 0):=by
       have:i<lP.length:=by omega
       simp[List.getD,this]
     have i4:m5[i]? =some (m5.getD i 0):=by
       have:i<m5.length:=by omega
       simp[List.getD,this]
     have r1:=Zp (g:=min) gX Al U4 (v:=min (gT.getD i 0) (kH.getD i 0)) rfl
     have r2:=Zp (g:=max) (a:=lP) (b:=m5) (i:=i) (by omega) (by omega) U5 (v:=max (lP.getD i 0) (m5.getD i 0)) rfl
     generalize gT.getD i 0=a1 at*
     generalize kH.getD i 0=a2 at*
     generalize lP.getD i 0=a3 at*
     generalize m5.getD i 0=a4 at*
     simp -dsimp -implicitDefEqProofs (disch:=first|omega|assumption|(simp only[rL,Nat.reduceAdd];try omega)) only[go_sem,simprocAttr,-List.reduceReplicate,f2,f3,f4,f7,f52,f53,aW,Hp.aV c2,Hp.aV c3,Hp.aV c7,Hp.dG OM,Hp.dG zC,oJ i1,oJ i2,oJ i3,oJ i4,uj]
     have n1':i+1≤(bA (mix min gT kH i)++U4).length:=by rw[List.length_append,kP,X8 gX (by omega)];omega
     have n2':i+1≤(bA (mix max lP m5 i)++U5).length:=by rw[List.length_append,kP,X8 (by omega) (by omega)];omega
     have y1':=Ne.symm d1A;have y2':=Ne.symm d1B;have y3':=Ne.symm U3;have y4':=Ne.symm d14;have y5':=Ne.symm d2A;have y6':=Ne.symm d2B;have y7':=Ne.symm d24;have y8':=Ne.symm d71;have y9':=Ne.symm d72
     simp -dsimp -implicitDefEqProofs (disch:=first|omega|assumption|(simp only[rL,Nat.reduceAdd];try omega)) only[go_sem,simprocAttr,-List.reduceReplicate,f2,f3,f4,f7,f52,f53,aW,Hp.aV c2,Hp.aV c3,Hp.aV c7,Hp.dG OM,Hp.dG zC,oJ i1,oJ i2,oJ i3,oJ i4,uj,n1',n2',r1,r2,Hp.aX,Hp.bt,U3,y3',y1',y2',y4',y5',y6',y7',y8',y9',d71,d72,c2,c3,c4,c7]
     refine⟨⟨i+1,by omega,?_,by simp⟩,by omega⟩
     exact Hp.bT (Hp.bT hs u1s) u2s
    ·obtain rfl:i=gT.length:=by omega
     refine sr (gP @f2 @f3 @f4 @f7 @f52 @f53 @aW (Hp.aV c7) (Hp.dG c4) @t2) ?_
     have z1:mix min gT kH gT.length=List.zipWith min gT kH:=by unfold mix;rw[List.drop_length,List.append_nil,List.take_of_length_le (by simp;omega)]
     have z2:mix max lP m5 gT.length=List.zipWith max lP m5:=by unfold mix;rw[List.drop_eq_nil_of_le (by omega),List.append_nil,List.take_of_length_le (by simp;omega)]
     rw[z1]at OM;rw[z2]at zC
     have lz1:(bA (List.zipWith min gT kH)).length=gT.length:=by rw[kP,List.length_zipWith];omega
     have lz2:(bA (List.zipWith max lP m5)).length=gT.length:=by rw[kP,List.length_zipWith];omega
     have g1: ∀q:Hp,q p1=s' p1→q vZ=s' vZ→s.sub q→LA s q (List.zipWith min gT kH) (List.zipWith max lP m5) (.mb p1 gT.length k1 1) (.mb vZ gT.length k2 1):=by
      intro q e1 e2 hq
      refine⟨q.del vZ,⟨fun x o hx=> ?_,.inr ⟨p1,gT.length,k1,_,rfl,u1s,by rw[Hp.pY _ U3,e1];exact OM,?_,?_,?_,y1,x1⟩⟩,⟨fun x o hx=> ?_,.inr ⟨vZ,gT.length,k2,_,rfl,Hp.yK _ _,by rw[e2];exact zC,?_,?_,?_,y2,x2⟩⟩⟩
      ·have bI:x≠vZ:=by rintro rfl;rw[u2s]at hx;cases hx
       rw[Hp.pY _ bI];exact hq x o hx
      ·rw[List.length_append,lz1];rw[List.length_append,kP]at w1;omega
      ·rw[Nat.mul_one,List.take_append_of_le_length (by omega),List.take_of_length_le (by omega)]
      ·omega
      ·have bI:x≠vZ:=by rintro rfl;rw[Hp.yK]at hx;cases hx
       rw[Hp.pY _ bI]at hx;exact hx
      ·rw[List.length_append,lz2];rw[List.length_append,kP]at w2;omega
      ·rw[Nat.mul_one,List.take_append_of_le_length (by omega),List.take_of_length_le (by omega)]
      ·omega
     exact⟨_,Hp.aH,_,_,rfl,g1 _ (Hp.aX _ _ d14) (Hp.aX _ _ d24) (Hp.bT hs lQ)⟩
   ·have gX: ¬gT.length=kH.length:=by omega
    refine sr (qE @la @lb @t2 (Hp.aV cA) (Hp.aV cB) (Hp.dG c4) @em @Bool.not_true @hl @e0 @q1 @q2 @p2) ?_
    rw[if_neg gX]
    exact⟨_,Hp.aH,_,_,rfl,KU s0 _ _ _ _ ⟨s0,MO.nil Hp.aH,MO.nil Hp.aH⟩⟩
 |false=>
  cases hB:v9 kH m5 kH.length with
  |false=>
   refine sr (oS @la @lb @t2 (Hp.aV cA) (Hp.aV cB) (Hp.dG c4) @em @Bool.not_false @e0 @q1 @q2 @p2) ?_
   exact⟨_,Hp.aH,_,_,rfl,KU s0 _ _ _ _ ⟨s0,MO.nil Hp.aH,MO.nil Hp.aH⟩⟩
  |true=>
   refine sr (c7 @la @lb @t2 (Hp.aV cA) (Hp.aV cB) @em @Bool.not_false) ?_
   refine bC (Qt _ kH m5 o3 o4 h3 h4) ?_
   rintro _ s1 ⟨x,y,rfl,m⟩
   obtain⟨sM,m1,m2⟩:=m
   have g4:=m2.1 _ _ (m1.1 _ _ c4)
   refine sr (c6 (Hp.dG g4) @e0 @q1 @q2 @p2 @em) ?_
   exact⟨_,Hp.aH,x,y,rfl,KU _ _ _ _ _ ⟨sM,m1,m2⟩⟩
theorem X9 (s:Hp) (gT lP kH m5:List Int) (o1 o2 o3 o4:Own) (h1:gT.length≤1000000000000) (h2:lP.length≤1000000000000) (h3:kH.length≤1000000000000) (h4:m5.length≤1000000000000):
  AC Tryz.prog 129 [C2 gT lP o1 o2,C2 kH m5 o3 o4] s fun r s'=>s.sub s'∧r=C2 (pB (gT,lP) (kH,m5)).1 (pB (gT,lP) (kH,m5)).2 .any .any:=
 (a8z s gT lP kH m5 o1 o2 o3 o4 h1 h2 h3 h4).view fun r s' h=>by
  obtain⟨x,y,rfl,sM,m1,m2⟩:=h
  obtain⟨sV,b1,b2⟩:=Nx m2
  have m3:=m1.mono b1
  obtain⟨sW,b3,b4⟩:=Nx m3
  exact⟨_,sW,(View.agg (pre:= [x]) (post:= []) rfl b2).trans (View.agg (pre:= []) (post:= [_]) rfl b4),b3,rfl⟩
theorem HH (a b:List Int×List Int) (n:Nat) (h1:a.1.length≤n) (h2:a.2.length≤n) (h3:b.1.length≤n) (h4:b.2.length≤n):(pB a b).1.length≤n∧(pB a b).2.length≤n:=by
 unfold pB
 (repeat' split)<;>first
  |exact⟨h1,h2⟩
  |exact⟨h3,h4⟩
  |(simp;done)
  |(simp;omega)
def cn {α:Type} (V:α→AV→Prop):List α→List AV→Prop
 | [],[]=>True
 |x::xs,a::as_=>V x a∧cn V xs as_
 | _,_=>False
theorem cn.len {α:Type}{V:α→AV→Prop}: ∀ {xs:List α}{av:List AV},cn V xs av→av.length=xs.length
 | [],[],_=>rfl
 | _:: _,_:: _,h=>by rw[List.length_cons,List.length_cons,h.2.len]
 | [],_:: _,h=>h.elim
 | _:: _,[],h=>h.elim
theorem cn.get {α:Type}{V:α→AV→Prop}: ∀ {xs:List α}{av:List AV}{i:Nat}{x:α},cn V xs av→xs[i]? =some x→ ∃a,av[i]? =some a∧V x a
 | [],_,_,_,_,h=>by simp at h
 |x::xs,a::av,0,y,h,hx=>by simp only[List.getElem?_cons_zero,Option.some.injEq]at hx⊢;subst hx;exact⟨a,rfl,h.1⟩
 |x::xs,a::av,i+1,y,h,hx=>by simp only[List.getElem?_cons_succ]at hx⊢;exact h.2.get hx
 | _:: _,[],_,_,h,_=>h.elim
theorem cn.append {α:Type}{V:α→AV→Prop}: ∀ {xs ys:List α}{av bv:List AV},cn V xs av→cn V ys bv→cn V (xs++ys) (av++bv)
 | [],_,[],_,_,h=>h
 | _:: _,_,_:: _,_,h,h2=>⟨h.1,h.2.append h2⟩
 | [],_,_:: _,_,h,_=>h.elim
 | _:: _,_,[],_,h,_=>h.elim
theorem cn.snoc {α:Type}{V:α→AV→Prop}{xs:List α}{av:List AV}{x:α}{a:AV} (h:cn V xs av) (h2:V x a):cn V (xs++ [x]) (av++ [a]):=h.append ⟨h2,trivial⟩
theorem cn.take {α:Type}{V:α→AV→Prop}: ∀ {xs:List α}{av:List AV} (n:Nat),cn V xs av→cn V (xs.take n) (av.take n)
 | [],[],n,_=>by simp[cn]
 | _:: _,_:: _,0,_=>by simp[cn]
 | _:: _,_:: _,n+1,h=>⟨h.1,h.2.take n⟩
 | [],_:: _,_,h=>h.elim
 | _:: _,[],_,h=>h.elim
theorem cn.drop {α:Type}{V:α→AV→Prop}: ∀ {xs:List α}{av:List AV} (n:Nat),cn V xs av→cn V (xs.drop n) (av.drop n)
 | [],[],n,_=>by simp[cn]
 | _:: _,_:: _,0,h=>h
 | _:: _,_:: _,n+1,h=>h.2.drop n
 | [],_:: _,_,h=>h.elim
 | _:: _,[],_,h=>h.elim
theorem cn.mono {α:Type}{V W:α→AV→Prop} (hw: ∀x a,V x a→W x a): ∀ {xs:List α}{av:List AV},cn V xs av→cn W xs av
 | [],[],h=>h
 | _:: _,_:: _,h=>⟨hw _ _ h.1,h.2.mono hw⟩
 | [],_:: _,h=>h.elim
 | _:: _,[],h=>h.elim
theorem cn.cells {α:Type}{V:α→AV→Prop}{k:Nat} (hV: ∀x a,V x a→a.cells.length=k): ∀ {xs:List α}{av:List AV},cn V xs av→dS k av
 | [],[],_=>by simp[dS]
 | _:: _,_:: _,h=>by rw[Ww];exact⟨hV _ _ h.1,h.2.cells hV⟩
 | [],_:: _,h=>h.elim
 | _:: _,[],h=>h.elim
def isRow (r:List Int) (a:AV):Prop:= ∃o,a= .sl (bA r) o
def mA (r:List Int×Bool) (a:AV):Prop:= ∃o,a= .agg [.sl (bA r.1) o,.v (.bool r.2)]
def aS (k:Kd) (o1 o2 o3:Own):List AV:=k.sum.map bN++ [.sl (bA k.lo) o1,.sl (bA k.hi) o2,.v (.int .i64 k.live),.v (.int .i64 k.size),.sl (bA k.key) o3]
structure U7 (k:Kd) (o1 o2 o3:Own) (K:List AV):Prop where
 len:K.length=37
 t37:K.take 37=K
 t32:K.take 32=k.sum.map bN
 d32:K.drop 32= [.sl (bA k.lo) o1,.sl (bA k.hi) o2,.v (.int .i64 k.live),.v (.int .i64 k.size),.sl (bA k.key) o3]
 d33:K.drop 33= [.sl (bA k.hi) o2,.v (.int .i64 k.live),.v (.int .i64 k.size),.sl (bA k.key) o3]
 d34:K.drop 34= [.v (.int .i64 k.live),.v (.int .i64 k.size),.sl (bA k.key) o3]
 d35:K.drop 35= [.v (.int .i64 k.size),.sl (bA k.key) o3]
 d36:K.drop 36= [.sl (bA k.key) o3]
theorem eA {k:Kd}{o1 o2 o3:Own} (h:k.sum.length=32):U7 k o1 o2 o3 (aS k o1 o2 o3):=by
 have h2:(k.sum.map bN).length=32:=by simp[h]
 have hd: ∀n,(aS k o1 o2 o3).drop (32+n)= [AV.sl (bA k.lo) o1,.sl (bA k.hi) o2,.v (.int .i64 k.live),.v (.int .i64 k.size),.sl (bA k.key) o3].drop n:=fun n=>by
  unfold aS
  rw[List.drop_append,List.drop_eq_nil_of_le (by omega),h2];simp
 exact⟨by simp[aS,h],List.take_of_length_le (by simp[aS,h]),by unfold aS;rw[List.take_append_of_le_length (by omega),List.take_of_length_le (by omega)],hd 0,hd 1,hd 2,hd 3,hd 4⟩
structure Kd.Sh (k:Kd):Prop where
 lo:k.lo.length≤1000000000000
 hi:k.hi.length≤1000000000000
 key:k.key.length≤1000000000000
theorem RQ:cO.Sh:=⟨by simp[cO],by simp[cO],by simp[cO]⟩
def eK (k:Kd) (a:AV):Prop:=k.sum.length=32∧k.Sh∧ ∃o1 o2 o3,a= .agg (aS k o1 o2 o3)
theorem mA.cells {r:List Int×Bool}{a:AV} (h:mA r a):a.cells.length=2:=by obtain⟨o,rfl⟩:=h;rfl
theorem eK.cells {k:Kd}{a:AV} (h:eK k a):a.cells.length=37:=by obtain⟨h1,_,o1,o2,o3,rfl⟩:=h;exact(eA h1).len
theorem isRow.cells {k:List Int}{a:AV} (h:isRow k a):a.cells.length=1:=by obtain⟨o,rfl⟩:=h;rfl
structure NQ (s:Hp) (p:AV) (cells:List AV):Prop where
 ld: ∀(s':Hp),s.sub s'→ ∀agg n,0<n→n≤cells.length→k9 agg n s' p=some (cK agg n cells)
 fa: ∀(s':Hp),s.sub s'→ ∀off agg n,0<n→off+n≤cells.length→ ∃p',Gq off p=some p'∧k9 agg n s' p'=some (cK agg n (cells.drop off))
structure Sl (s:Hp) (k:Nat) (x:AV) (xs:List AV):Prop where
 one:x.cells= [x]
 len:wN x=some (.v (.int .i64 xs.length))
 get: ∀(i:Nat) e,xs[i]? =some e→ ∃p,kQ k x (.v (.int .i64 (i:Int)))=some p∧NQ s p e.cells
theorem NQ.mono {s s':Hp}{p:AV}{cells:List AV} (h:NQ s p cells) (hs:s.sub s'):NQ s' p cells:=⟨fun s2 h2=>h.ld s2 (Hp.cy hs h2),fun s2 h2=>h.fa s2 (Hp.cy hs h2)⟩
theorem Sl.mono {s s':Hp}{k:Nat}{x:AV}{xs:List AV} (h:Sl s k x xs) (hs:s.sub s'):Sl s' k x xs:=⟨h.one,h.len,fun i e he=>by
 obtain⟨p,h1,h2⟩:=h.get i e he
 exact⟨p,h1,h2.mono hs⟩⟩
theorem Sl.sl {s:Hp}{k:Nat}{av:List AV}{o:Own} (h:dS k av):Sl s k (.sl av o) av:=⟨rfl,rfl,fun i e he=>by
 have h0:(0:Int)≤(i:Int):=by omega
 refine⟨.eJ e.cells,?_,⟨fun s' _ agg n _ hn=>by simp[k9,hn],fun s' _ off agg n _ hn=>⟨_,rfl,?_⟩⟩⟩
 ·simp only[kQ,h0,if_true,Int.toNat_natCast,he]
  exact qR (h e (List.mem_of_getElem? he))
 ·have:n≤(e.cells.drop off).length:=by rw[List.length_drop];omega
  simp only[k9]
  rw[if_pos this]⟩
theorem W4 {k:Nat}{av:List AV} (h:dS k av) {i:Nat}{e:AV} (he:av[i]? =some e):((flat av).drop (i*k)).take k=e.cells:=by
 obtain⟨hi,rfl⟩:=List.getElem?_eq_some_iff.1 he
 rw[(sK i h).1,List.drop_eq_getElem_cons hi]
 have hc:(av[i]).cells.length=k:=h _ (List.getElem_mem hi)
 simp only[flat,List.flatMap_cons]
 rw[List.take_append_of_le_length (by omega),List.take_of_length_le (by omega)]
theorem Sl.mb {s:Hp}{l n cap k:Nat}{cs av:List AV} (h:dS k av) (hl:s l=some (.cells cs)) (hn:av.length=n) (hc:cs.take (n*k)=flat av):Sl s k (.mb l n cap k) av:=by
 refine⟨rfl,by rw[hn];rfl,fun i e he=> ?_⟩
 obtain⟨hi,_⟩:=List.getElem?_eq_some_iff.1 he
 have ke:(flat av).length=n*k:=by rw[ny h,hn]
 have hle:n*k≤cs.length:=by have:=congrArg List.length hc;rw[ke,List.length_take]at this;omega
 have J9:(i+1)*k≤n*k:=Nat.mul_le_mul_right _ (by omega)
 rw[Nat.add_mul,Nat.one_mul]at J9
 have AH:e.cells.length=k:=h e (List.mem_of_getElem? he)
 have vG: ∀off m,off+m≤k→((cs.drop (i*k+off)).take m)=(e.cells.drop off).take m:=by
  intro off m hm
  rw[←W4 h he,←hc]
  rw[List.drop_take,List.take_take,Nat.min_eq_left (by omega),List.drop_drop,List.drop_take,List.take_take,Nat.min_eq_left (by omega)]
 have hmk: ∀agg off m,off+m≤k→0<m→cK agg m (cs.drop (i*k+off))=cK agg m (e.cells.drop off):=by
  intro agg off m hm h0
  cases agg with
  |true=>simp only[cK,if_true];rw[vG off m hm]
  |false=>
   have h1:=vG off 1 (by omega)
   simp only[cK,Bool.false_eq_true,if_false]
   cases ha:cs.drop (i*k+off)with
   |nil=>exfalso;have:=congrArg List.length ha;simp at this;omega
   |cons a r=>
    cases hb:e.cells.drop off with
    |nil=>exfalso;have:=congrArg List.length hb;simp at this;omega
    |cons b q=>rw[ha,hb]at h1;simp at h1;simp[h1]
 refine⟨.ptr l (i*k),?_,⟨fun s' hs agg m h0 hm=> ?_,fun s' hs off agg m h0 hm=>⟨.ptr l (i*k+off),rfl,?_⟩⟩⟩
 ·have h2:(i:Int)<n:=by omega
  have h3:(0:Int)≤(i:Int):=by omega
  rw[I3 h3 h2,Int.toNat_natCast]
 ·have g:=Hp.aV (hs _ _ hl)
  have h4:i*k+m≤cs.length:=by omega
  simp only[k9,g,if_pos h4]
  have:=hmk agg 0 m (by omega) h0;simp only[Nat.add_zero,List.drop_zero]at this;rw[this]
 ·have g:=Hp.aV (hs _ _ hl)
  have h4:i*k+off+m≤cs.length:=by omega
  simp only[k9,g,if_pos h4]
  rw[hmk agg off m (by omega) h0]
theorem Sl.mo {s0 s:Hp}{k:Nat}{us av:List AV}{a:AV} (h:MO s0 s k us a) (hk:0<k) (hu:us=flat av) (hl:dS k av):Sl s k a av:=by
 subst hu
 have ke:=ny hl
 obtain⟨h1,⟨e,rfl|rfl⟩|⟨l,n,cap,cs,rfl,q2,q3,q4,q5,q6,q7,q8⟩⟩:=h
 ·have:av= []:=List.eq_nil_of_length_eq_zero (by
   rw[e,List.length_nil]at ke;exact(Nat.mul_eq_zero.1 ke.symm).resolve_right (by omega))
  subst this;exact Sl.sl hl
 ·have:av= []:=List.eq_nil_of_length_eq_zero (by
   rw[e,List.length_nil]at ke;exact(Nat.mul_eq_zero.1 ke.symm).resolve_right (by omega))
  subst this;exact Sl.sl hl
 ·exact Sl.mb hl q3 (Nat.eq_of_mul_eq_mul_right hk (by rw[←ke,q6])) q5
def tR {α:Type} (V:α→AV→Prop) (s:Hp) (fn:FuncId) (ds cs:List AV) (p:α→Bool):Prop:=
 A5 Tryz.prog fn=true∧ ∀x a (s':Hp),V x a→s.sub s'→AC Tryz.prog fn (ds++ [a]++cs) s' fun r s2=>s2=s'∧r= .v (.bool (p x))
theorem a75 (xs:List (List Int×Bool)) (av:List AV) (x0:AV) (s:Hp) (hA:cn mA xs av) (hS:Sl s 2 x0 av) (hn:xs.length≤1000000000000) {fn:FuncId}{ds cs:List AV}{p:(List Int×Bool)→Bool} (hf:tR mA s fn ds cs p):
  AC Tryz.prog 196 [x0,.eU fn ds cs] s fun r s'=>s'=s∧ ∃k:Int,r= .v (.int .i64 k)∧decide (0≤k)=xs.any p:=by
 refine cR hm aat (by simp) ?_
 have hlen:=hA.len
 have hL:=hS.len
 rw[hlen]at hL
 refine sr @hL ?_
 refine fS (fun f s'=> ∃i:Nat,i≤xs.length∧s'=s∧f 0=x0∧f 1= .eU fn ds cs∧f 7= .v (.int .i64 xs.length)∧f 8= .v (.int .i64 i)∧(xs.take i).any p=false)
  (fun f _=>match f 8 with| .v (.int _ n)=>xs.length - n.toNat| _=>0) ⟨0,by omega,rfl,?_⟩ ?_
 ·refine sr @hL ?_
  simp
 rintro f sA ⟨i,hi,rfl,f0,f1,f7,f8,uB⟩
 by_cases aW:(i:Int)<(xs.length:Int)
 ·have hw:xs[i]? =some xs[i]:=List.getElem?_eq_getElem (by omega)
  have ht:xs.take (i+1)=xs.take i++ [xs[i]]:=by rw[List.take_add_one,hw];rfl
  have qx:xs[i]'(by omega)∈xs:=List.getElem_mem _
  generalize xs[i]'(by omega)=x at hw ht qx
  obtain⟨a,iB,ha⟩:=hA.get hw
  obtain⟨p9,e,gl⟩:=hS.get i a iB
  have AL:k9 true 2 sA p9=some a:=by
   have h7:=gl.ld sA Hp.aH true 2 (by omega) (by rw[mA.cells ha];omega)
   rw[h7]
   obtain⟨o9,rfl⟩:=ha;rfl
  refine sr (c7 @f0 @f1 @f7 @f8 @aW @e @AL) ?_
  refine zT hf.1 (hf.2 x a _ ha Hp.aH) ?_
  rintro _ sA ⟨rfl,rfl⟩
  cases hp:p x with
  |true=>
   refine sr (c5 @f0 @f1 @f7 @f8 @aW) ?_
   refine⟨_,Hp.aH,rfl,_,rfl,?_⟩
   have:xs.any p=true:=List.any_eq_true.2 ⟨x,qx,hp⟩
   rw[this];simp
  |false=>
   refine sr (c5 @f0 @f1 @f7 @f8 @aW) ?_
   refine⟨⟨i+1,by omega,by simp,?_⟩,by omega⟩
   rw[ht,List.any_append,uB];simp[hp]
 ·obtain rfl:i=xs.length:=by omega
  refine sr (c5 @f0 @f1 @f7 @f8 @aW) ?_
  rw[List.take_length]at uB
  exact⟨_,Hp.aH,rfl,_,rfl,by rw[uB];simp⟩
theorem a4m (xs:List (List Int×Bool)) (av:List AV) (x0:AV) (s:Hp) (hA:cn mA xs av) (hS:Sl s 2 x0 av) (hn:xs.length≤1000000000000) {fn:FuncId}{ds cs:List AV}{p:(List Int×Bool)→Bool} (hf:tR mA s fn ds cs p):
  AC Tryz.prog 189 [x0,.eU fn ds cs] s fun r s'=>s'=s∧r= .v (.bool (xs.any p)):=by
 refine cR hm aam (by simp) ?_
 refine dD ?_
 refine bC (a75 xs av x0 s hA hS hn hf) ?_
 rintro _ sA ⟨rfl,k,rfl,hk⟩
 refine dD ?_
 exact⟨_,Hp.aH,rfl,by rw[hk]⟩
theorem XO (xs:List (List Int×Bool)) (av:List AV) (x0:AV) (s:Hp) (hA:cn mA xs av) (hS:Sl s 2 x0 av) (hn:xs.length≤1000000000000) {fn:FuncId}{ds cs:List AV}{p:(List Int×Bool)→Bool} (hf:tR mA s fn ds cs p):
  AC Tryz.prog 162 [x0,.eU fn ds cs] s fun r s'=>s'=s∧r= .v (.bool (xs.all p)):=by
 refine cR hm a9Y (by simp) ?_
 refine dD ?_
 refine cP fun l3 n3=> ?_
 have s3:=Hp.bT (o:= .cells [.eU fn ds cs]) (Hp.aH (s:=s)) n3
 have c3:(s.set l3 (.cells [.eU fn ds cs])) l3=some (.cells [.eU fn ds cs]):=Hp.bt _ _ _
 have ec:(AV.eU fn ds cs).cells= [.eU fn ds cs]:=rfl
 refine sr @ec ?_
 generalize s.set l3 (.cells [.eU fn ds cs])=sB at*
 refine bC (a4m xs av x0 sB hA (hS.mono s3) hn (fn:=190) (ds:= []) (cs:= [.ptr l3 0]) (p:=fun x=> !p x) ⟨by kernel_rfl,fun x a s' hx iK=> ?_⟩) ?_
 ·change AC Tryz.prog _ [a,.ptr l3 0] s' _
  refine cR hm aan (by simp) ?_
  have yh:=iK _ _ c3
  refine sr (mA.cells hx) ?_
  refine cP fun l2 n2=> ?_
  have s2:=Hp.bT (o:= .cells a.cells) (Hp.aH (s:=s')) n2
  have c2:(s'.set l2 (.cells a.cells)) l2=some (.cells a.cells):=Hp.bt _ _ _
  have c4:=s2 _ _ yh
  have AL:cK true 2 (a.cells.drop 0)=a:=by
   obtain⟨o9,rfl⟩:=hx;rfl
  have SS:cK true 2 a.cells=a:=AL
  have hlen:=mA.cells hx
  refine sr @hlen ?_
  have lj:=hf.2 x a (s'.set l2 (.cells a.cells)) hx (Hp.cy s3 (Hp.cy iK s2))
  generalize s'.set l2 (.cells a.cells)=sC at*
  refine sr (c5 (Hp.aV c4) (Hp.aV c2) @hlen @AL @SS) ?_
  refine zT hf.1 lj ?_
  rintro _ sC ⟨rfl,rfl⟩
  refine dD ?_
  exact⟨s',s2,rfl⟩
 rintro _ sB ⟨rfl,rfl⟩
 refine dD ?_
 refine⟨s,s3,rfl,?_⟩
 rw[List.any_eq_not_all_not];simp
theorem a76 (xs:List Kd) (av:List AV) (x0:AV) (s:Hp) (hA:cn eK xs av) (hS:Sl s 37 x0 av) (hn:xs.length≤1000000000000) {fn:FuncId}{ds cs:List AV}{p:Kd→Bool} (hf:tR eK s fn ds cs p):
  AC Tryz.prog 197 [x0,.eU fn ds cs] s fun r s'=>s'=s∧ ∃k:Int,r= .v (.int .i64 k)∧decide (0≤k)=xs.any p:=by
 refine cR hm aau (by simp) ?_
 have hlen:=hA.len
 have hL:=hS.len
 rw[hlen]at hL
 refine sr @hL ?_
 refine fS (fun f s'=> ∃i:Nat,i≤xs.length∧s'=s∧f 0=x0∧f 1= .eU fn ds cs∧f 7= .v (.int .i64 xs.length)∧f 8= .v (.int .i64 i)∧(xs.take i).any p=false)
  (fun f _=>match f 8 with| .v (.int _ n)=>xs.length - n.toNat| _=>0) ⟨0,by omega,rfl,?_⟩ ?_
 ·refine sr @hL ?_
  simp
 rintro f sA ⟨i,hi,rfl,f0,f1,f7,f8,uB⟩
 by_cases aW:(i:Int)<(xs.length:Int)
 ·have hw:xs[i]? =some xs[i]:=List.getElem?_eq_getElem (by omega)
  have ht:xs.take (i+1)=xs.take i++ [xs[i]]:=by rw[List.take_add_one,hw];rfl
  have qx:xs[i]'(by omega)∈xs:=List.getElem_mem _
  generalize xs[i]'(by omega)=x at hw ht qx
  obtain⟨a,iB,ha⟩:=hA.get hw
  obtain⟨p9,e,gl⟩:=hS.get i a iB
  have AL:k9 true 37 sA p9=some a:=by
   have h7:=gl.ld sA Hp.aH true 37 (by omega) (by rw[eK.cells ha];omega)
   rw[h7]
   obtain⟨h9,_,o1,o2,o3,rfl⟩:=ha;simp[AV.cells,cK,(eA (o1:=o1) (o2:=o2) (o3:=o3) h9).t37]
  refine sr (c7 @f0 @f1 @f7 @f8 @aW @e @AL) ?_
  refine zT hf.1 (hf.2 x a _ ha Hp.aH) ?_
  rintro _ sA ⟨rfl,rfl⟩
  cases hp:p x with
  |true=>
   refine sr (c5 @f0 @f1 @f7 @f8 @aW) ?_
   refine⟨_,Hp.aH,rfl,_,rfl,?_⟩
   have:xs.any p=true:=List.any_eq_true.2 ⟨x,qx,hp⟩
   rw[this];simp
  |false=>
   refine sr (c5 @f0 @f1 @f7 @f8 @aW) ?_
   refine⟨⟨i+1,by omega,by simp,?_⟩,by omega⟩
   rw[ht,List.any_append,uB];simp[hp]
 ·obtain rfl:i=xs.length:=by omega
  refine sr (c5 @f0 @f1 @f7 @f8 @aW) ?_
  rw[List.take_length]at uB
  exact⟨_,Hp.aH,rfl,_,rfl,by rw[uB];simp⟩
theorem a4n (xs:List Kd) (av:List AV) (x0:AV) (s:Hp) (hA:cn eK xs av) (hS:Sl s 37 x0 av) (hn:xs.length≤1000000000000) {fn:FuncId}{ds cs:List AV}{p:Kd→Bool} (hf:tR eK s fn ds cs p):
  AC Tryz.prog 191 [x0,.eU fn ds cs] s fun r s'=>s'=s∧r= .v (.bool (xs.any p)):=by
 refine cR hm aao (by simp) ?_
 refine dD ?_
 refine bC (a76 xs av x0 s hA hS hn hf) ?_
 rintro _ sA ⟨rfl,k,rfl,hk⟩
 refine dD ?_
 exact⟨_,Hp.aH,rfl,by rw[hk]⟩
theorem QM (xs:List Kd) (av:List AV) (x0:AV) (s:Hp) (hA:cn eK xs av) (hS:Sl s 37 x0 av) (hn:xs.length≤1000000000000) {fn:FuncId}{ds cs:List AV}{p:Kd→Bool} (hf:tR eK s fn ds cs p):
  AC Tryz.prog 164 [x0,.eU fn ds cs] s fun r s'=>s'=s∧r= .v (.bool (xs.all p)):=by
 refine cR hm aa0 (by simp) ?_
 refine dD ?_
 refine cP fun l3 n3=> ?_
 have s3:=Hp.bT (o:= .cells [.eU fn ds cs]) (Hp.aH (s:=s)) n3
 have c3:(s.set l3 (.cells [.eU fn ds cs])) l3=some (.cells [.eU fn ds cs]):=Hp.bt _ _ _
 have ec:(AV.eU fn ds cs).cells= [.eU fn ds cs]:=rfl
 refine sr @ec ?_
 generalize s.set l3 (.cells [.eU fn ds cs])=sB at*
 refine bC (a4n xs av x0 sB hA (hS.mono s3) hn (fn:=192) (ds:= []) (cs:= [.ptr l3 0]) (p:=fun x=> !p x) ⟨by kernel_rfl,fun x a s' hx iK=> ?_⟩) ?_
 ·change AC Tryz.prog _ [a,.ptr l3 0] s' _
  refine cR hm aap (by simp) ?_
  have yh:=iK _ _ c3
  refine sr (eK.cells hx) ?_
  refine cP fun l2 n2=> ?_
  have s2:=Hp.bT (o:= .cells a.cells) (Hp.aH (s:=s')) n2
  have c2:(s'.set l2 (.cells a.cells)) l2=some (.cells a.cells):=Hp.bt _ _ _
  have c4:=s2 _ _ yh
  have AL:cK true 37 (a.cells.drop 0)=a:=by
   obtain⟨h9,_,o1,o2,o3,rfl⟩:=hx;show cK true 37 (aS x o1 o2 o3)= _;rw[cK,if_pos rfl,(eA h9).t37]
  have SS:cK true 37 a.cells=a:=AL
  have hlen:=eK.cells hx
  refine sr @hlen ?_
  have lj:=hf.2 x a (s'.set l2 (.cells a.cells)) hx (Hp.cy s3 (Hp.cy iK s2))
  generalize s'.set l2 (.cells a.cells)=sC at*
  refine sr (c5 (Hp.aV c4) (Hp.aV c2) @hlen @AL @SS) ?_
  refine zT hf.1 lj ?_
  rintro _ sC ⟨rfl,rfl⟩
  refine dD ?_
  exact⟨s',s2,rfl⟩
 rintro _ sB ⟨rfl,rfl⟩
 refine dD ?_
 refine⟨s,s3,rfl,?_⟩
 rw[List.any_eq_not_all_not];simp
theorem aeh (a b:Kd):(decide (a=b))=(decide (a.sum=b.sum)&&decide (a.live=b.live)&&decide (a.size=b.size)&&(decide (a.lo=b.lo)&&decide (a.hi=b.hi))&&decide (a.key=b.key)):=by
 obtain⟨s1,l1,h1,v1,z1,k1⟩:=a
 obtain⟨s2,l2,h2,v2,z2,k2⟩:=b
 rw[←Bool.coe_iff_coe]
 simp only[Kd.mk.injEq,decide_eq_true_eq,Bool.and_eq_true]
 constructor
 ·rintro ⟨a,b,c,d,e,f⟩;exact⟨⟨⟨⟨a,d⟩,e⟩,b,c⟩,f⟩
 ·rintro ⟨⟨⟨⟨a,d⟩,e⟩,b,c⟩,f⟩;exact⟨a,b,c,d,e,f⟩
theorem Ke {a b:List UInt8}:AA (.agg (a.map bN)) (.agg (b.map bN))=decide (a=b):=by
 rw[←Bool.coe_iff_coe,K7,decide_eq_true_eq]
 exact⟨fun h=>a08 h,fun h=>by rw[h]⟩
theorem Xa (a b:Kd) (o1 o2 o3 p1 p2 p3:Own) (s:Hp) (ha:a.sum.length=32) (hb:b.sum.length=32) (hs:a.Sh):
  AC Tryz.prog 63 [.agg (aS a o1 o2 o3),.agg (aS b p1 p2 p3)] s fun r s'=>s'=s∧r= .v (.bool (decide (a=b))):=by
 have hA:=eA (o1:=o1) (o2:=o2) (o3:=o3) ha
 have hB:=eA (o1:=p1) (o2:=p2) (o3:=p3) hb
 rw[aeh]
 generalize aS a o1 o2 o3=KA at hA
 generalize aS b p1 p2 p3=KB at hB
 obtain⟨a1,a2,a3,a4,_,a6,a7,a8⟩:=hA
 obtain⟨b1,b2,b3,b4,_,b6,b7,b8⟩:=hB
 refine cR hm ada (by simp) ?_
 have e0: ∀cs,(AV.agg cs).cells=cs:=fun _=>rfl
 refine sr (c2 @e0 @a1) ?_
 refine cP fun l2 n2=> ?_
 refine sr (c2 @e0 @b1) ?_
 refine cP fun l3 n3=> ?_
 have d:l2≠l3:=by rintro rfl;rw[Hp.bt]at n3;cases n3
 have d':=Ne.symm d
 have AK:s l3=none:=by rw[Hp.aX _ _ d']at n3;exact n3
 have dm:=Hp.bT (o:= .cells KB) (Hp.bT (o:= .cells KA) (Hp.aH (s:=s)) n2) AK
 have c2:((s.set l2 (.cells KA)).set l3 (.cells KB)) l2=some (.cells KA):=by rw[Hp.aX _ _ d,Hp.bt]
 have c3:((s.set l2 (.cells KA)).set l3 (.cells KB)) l3=some (.cells KB):=Hp.bt _ _ _
 have h1:gZ [(32,.int .u8)] (a.sum.map bN):=FA ha
 have h2:gZ [(32,.int .u8)] (b.sum.map bN):=FA hb
 have q2: ∀x y c d e:AV,List.take 2 [x,y,c,d,e]= [x,y]:=fun _ _ _ _ _=>rfl
 by_cases k1:a.sum=b.sum
 ·by_cases k2:a.live=b.live
  ·by_cases k3:a.size=b.size
   ·refine sr (c19 @e0 @a3 @b3 @h1 @h2 @Ke @k1 @k2 @k3 @a1 @b1 @a6 @b6 @a7 @b7 @a4 @b4 @q2 @Bool.false_xor) ?_
    refine bC (a5F _ a.lo a.hi b.lo b.hi o1 o2 p1 p2 hs.lo hs.hi) ?_
    rintro _ _ ⟨rfl,rfl⟩
    cases k4:(decide (a.lo=b.lo)&&decide (a.hi=b.hi))with
    |true=>
     refine sr (c7 @e0 @a1 @b1 @a8 @b8 (Hp.aV c2) (Hp.aV c3)) ?_
     refine bC (MI a.key b.key o3 p3 _ hs.key) ?_
     rintro _ _ ⟨rfl,rfl⟩
     refine dD ?_
     exact⟨s,dm,by simp[*]⟩
    |false=>
     refine sr @e0 ?_
     exact⟨s,dm,by simp[*]⟩
   ·refine sr (c19 @e0 @a3 @b3 @h1 @h2 @Ke @k1 @k2 @k3 @a1 @b1 @a6 @b6 @a7 @b7 @a4 @b4 @q2 @Bool.false_xor) ?_
    exact⟨s,dm,by simp[*]⟩
  ·refine sr (OD @e0 @a3 @b3 @h1 @h2 @Ke @k1 @k2 @a1 @b1 @a6 @b6 @a7 @b7 @a4 @b4 @q2 @Bool.false_xor) ?_
   exact⟨s,dm,by simp[*]⟩
 ·refine sr (Gs @e0 @a3 @b3 @h1 @h2 @Ke @k1 @a1 @b1 @a6 @b6 @a7 @b7 @a4 @b4 @q2 @Bool.false_xor) ?_
  exact⟨s,dm,by simp[*]⟩
theorem JO (a:Kd) (o1 o2 o3:Own) (s:Hp) (ha:a.sum.length=32) (hs:a.Sh):
  AC Tryz.prog 38 [.agg (aS a o1 o2 o3)] s fun r s'=>s'=s∧r= .v (.bool (decide (a=cO))):=by
 have hA:=eA (o1:=o1) (o2:=o2) (o3:=o3) ha
 refine cR hm acQ (by simp) ?_
 have e0: ∀cs,(AV.agg cs).cells=cs:=fun _=>rfl
 have hl:=hA.len
 have hz:(List.replicate 32 (AV.v (.int .u8 0))++ [AV.sl [] .nil,.sl [] .nil]++ [AV.v (.int .i64 0),.v (.int .i64 0)]++ [AV.sl [] .nil])=aS cO .nil .nil .nil:=by
  rw[show List.replicate 32 (AV.v (.int .u8 0))=(List.replicate 32 (0:UInt8)).map bN by rw[List.map_replicate];rfl]
  simp only[List.append_assoc];rfl
 refine sr (c2 @e0 hA.len) ?_
 refine cP fun l n=> ?_
 refine sr (c4 @e0 hA.len hA.t37 @hz) ?_
 refine bC (Xa a cO o1 o2 o3 .nil .nil .nil _ ha rfl hs) ?_
 rintro _ _ ⟨rfl,rfl⟩
 refine dD ?_
 exact⟨s,Hp.bT Hp.aH n,rfl⟩
theorem a41 (a:Kd) (o1 o2 o3:Own) (d:Nat) (s:Hp) (hd:d≤1000000000000) (ha:a.sum.length=32) (hs:a.Sh):
  AC Tryz.prog 166 [.agg (aS a o1 o2 o3),.v (.int .i64 (d:Int))] s fun r s'=>s'=s∧r= .v (.bool (xR d a)):=by
 have hA:=eA (o1:=o1) (o2:=o2) (o3:=o3) ha
 have hE:=fun s=>JO a o1 o2 o3 s ha hs
 generalize aS a o1 o2 o3=KA at hA hE
 obtain⟨a1,a2,a3,a4,a5,a6,a7,a8⟩:=hA
 refine cR hm aa2 (by simp) ?_
 have e0: ∀cs,(AV.agg cs).cells=cs:=fun _=>rfl
 have la:=kP (r:=a.lo)
 have lb:=kP (r:=a.hi)
 refine sr (c2 @e0 @a1) ?_
 refine cP fun l n=> ?_
 have dm:=Hp.bT (o:= .cells KA) (Hp.aH (s:=s)) n
 refine sr (c3 @e0 @a1 @a2) ?_
 refine bC (hE _) ?_
 rintro _ _ ⟨rfl,rfl⟩
 have q2: ∀x y c d e:AV,List.take 2 [x,y,c,d,e]= [x,y]:=fun _ _ _ _ _=>rfl
 unfold xR
 by_cases k0:a=cO
 ·refine sr @k0 ?_
  exact⟨s,dm,rfl,by simp⟩
 by_cases k1:a.size<1
 ·refine sr (c6 @k0 @k1 @e0 @a1 @a6 @a7) ?_
  exact⟨s,dm,by simp[*]⟩
 by_cases k2:(1048576:Int)<a.size
 ·refine sr (c7 @k0 @k1 @k2 @e0 @a1 @a6 @a7) ?_
  exact⟨s,dm,by simp[*]⟩
 by_cases k3:a.live<0
 ·refine sr (c8 @k0 @k1 @k2 @k3 @e0 @a1 @a6 @a7) ?_
  exact⟨s,dm,by simp[*]⟩
 by_cases k4:a.size<a.live
 ·refine sr (c9 @k0 @k1 @k2 @k3 @k4 @e0 @a1 @a6 @a7) ?_
  exact⟨s,dm,by simp[*]⟩
 by_cases k5:a.live=0
 ·have k7: ¬a.size<0:=by omega
  by_cases k6:(a.lo.length:Int)=0
  ·refine sr (J3 @k0 @k1 @k2 @k3 @k4 @k5 @k6 @k7 @e0 @a1 @a4 @a5 @a6 @a7 @la @lb) ?_
   have U8:a.lo.length=0:=by omega
   have e:decide ((a.hi.length:Int)=0)=decide (a.hi.length=0):=by
    have:((a.hi.length:Int)=0)↔a.hi.length=0:=by omega
    simp only[this]
   refine⟨s,dm,rfl,?_⟩
   simp only[k0,k1,k2,k5,U8,k7,e,Int.lt_irrefl,decide_false,decide_true,Bool.false_or,Bool.or_self,Bool.not_false,Bool.true_and,if_true]
  ·refine sr (J3 @k0 @k1 @k2 @k3 @k4 @k5 @k6 @k7 @e0 @a1 @a4 @a5 @a6 @a7 @la @lb) ?_
   have U8: ¬a.lo.length=0:=by omega
   refine⟨s,dm,rfl,?_⟩
   simp only[k0,k1,k2,k5,U8,k7,Int.lt_irrefl,decide_false,Bool.false_or,Bool.or_self,Bool.not_false,Bool.true_and,Bool.false_and,if_true]
 ·refine sr (Gr @k0 @k1 @k2 @k3 @k4 @k5 @e0 @a1 @a4 @a5 @a6 @a7 @la @lb @q2) ?_
  refine bC (Qj _ a.lo a.hi o1 o2 d hd) ?_
  rintro _ _ ⟨rfl,rfl⟩
  refine dD ?_
  refine⟨s,dm,rfl,?_⟩
  simp only[k0,k1,k2,k3,k4,k5,decide_false,Bool.false_or,Bool.or_self,Bool.not_false,Bool.true_and,if_false]
theorem a8A (d:Nat) (r:List Int×Bool) (a:AV) (ha:mA r a) (s:Hp) (l:Nat) (hl:s.read l=some [.v (.int .i64 (d:Int))]):
  AC Tryz.prog 163 [a,.ptr l 0] s fun x s'=>s'=s∧x= .v (.bool (decide (r.1.length=d))):=by
 obtain⟨o,rfl⟩:=ha
 refine cR hm a9Z (by simp) ?_
 have e0: ∀cs,(AV.agg cs).cells=cs:=fun _=>rfl
 have la:=kP (r:=r.1)
 refine sr @e0 ?_
 refine cP fun l2 n2=> ?_
 have bI:l≠l2:=by rintro rfl;simp[Hp.read,n2]at hl
 refine sr (c3 @e0 @la @hl) ?_
 have e:decide ((r.1.length:Int)=d)=decide (r.1.length=d):=by
  have:((r.1.length:Int)=d)↔r.1.length=d:=by omega
  simp only[this]
 exact⟨s,Hp.bT Hp.aH n2,rfl,by rw[e]⟩
theorem a8B (d:Nat) (hd:d≤1000000000000) (k:Kd) (a:AV) (ha:eK k a) (s:Hp) (l:Nat) (hl:s.read l=some [.v (.int .i64 (d:Int))]):
  AC Tryz.prog 165 [a,.ptr l 0] s fun x s'=>s'=s∧x= .v (.bool (xR d k)):=by
 obtain⟨h1,h2,o1,o2,o3,rfl⟩:=ha
 refine cR hm aa1 (by simp) ?_
 have e0: ∀cs,(AV.agg cs).cells=cs:=fun _=>rfl
 have hA:=eA (o1:=o1) (o2:=o2) (o3:=o3) h1
 have mS:=hA.len
 refine sr @e0 ?_
 refine cP fun l2 n2=> ?_
 have bI:l≠l2:=by rintro rfl;simp[Hp.read,n2]at hl
 refine sr (c3 @e0 @hl hA.t37) ?_
 refine bC (a41 k o1 o2 o3 d _ hd h1 h2) ?_
 rintro _ _ ⟨rfl,rfl⟩
 refine dD ?_
 exact⟨s,Hp.bT Hp.aH n2,rfl⟩
theorem a8C (k:Kd) (a:AV) (ha:eK k a) (s:Hp):
  AC Tryz.prog 167 [a] s fun x s'=>s'=s∧x= .v (.bool (decide (k.key.length=0))):=by
 obtain⟨h1,h2,o1,o2,o3,rfl⟩:=ha
 refine cR hm aa3 (by simp) ?_
 have e0: ∀cs,(AV.agg cs).cells=cs:=fun _=>rfl
 have hA:=eA (o1:=o1) (o2:=o2) (o3:=o3) h1
 have mS:=hA.len
 have la:=kP (r:=k.key)
 refine sr @e0 ?_
 refine cP fun l2 n2=> ?_
 refine sr (c3 @e0 hA.d36 @la) ?_
 have e:decide ((k.key.length:Int)=0)=decide (k.key.length=0):=by
  have:((k.key.length:Int)=0)↔k.key.length=0:=by omega
  simp only[this]
 exact⟨s,Hp.bT Hp.aH n2,rfl,by rw[e]⟩
theorem a8D (r:List Int×Bool) (a:AV) (ha:mA r a) (s:Hp):
  AC Tryz.prog 168 [a] s fun x s'=>s'=s∧x= .v (.bool r.2):=by
 obtain⟨o,rfl⟩:=ha
 refine cR hm aa4 (by simp) ?_
 have e0: ∀cs,(AV.agg cs).cells=cs:=fun _=>rfl
 refine sr @e0 ?_
 refine cP fun l2 n2=> ?_
 refine sr @e0 ?_
 exact⟨s,Hp.bT Hp.aH n2,rfl⟩
theorem a8E (d:Nat) (k:Kd) (a:AV) (ha:eK k a) (s:Hp) (l:Nat) (hl:s.read l=some [.v (.int .i64 (d:Int))]):
  AC Tryz.prog 169 [a,.ptr l 0] s fun x s'=>s'=s∧x= .v (.bool (decide (k.key.length=d)&& !decide (k=cO))):=by
 obtain⟨h1,h2,o1,o2,o3,rfl⟩:=ha
 refine cR hm aa5 (by simp) ?_
 have e0: ∀cs,(AV.agg cs).cells=cs:=fun _=>rfl
 have hA:=eA (o1:=o1) (o2:=o2) (o3:=o3) h1
 have mS:=hA.len
 have la:=kP (r:=k.key)
 refine sr @e0 ?_
 refine cP fun l2 n2=> ?_
 have bI:l≠l2:=by rintro rfl;simp[Hp.read,n2]at hl
 by_cases k1:(k.key.length:Int)=d
 ·have U9:k.key.length=d:=by omega
  refine sr (c6 @e0 @hl hA.t37 hA.d36 @la @k1) ?_
  refine bC (JO k o1 o2 o3 _ h1 h2) ?_
  rintro _ _ ⟨rfl,rfl⟩
  refine dD ?_
  exact⟨s,Hp.bT Hp.aH n2,rfl,by simp[U9]⟩
 ·have U9: ¬k.key.length=d:=by omega
  refine sr (c6 @e0 @hl hA.t37 hA.d36 @la @k1) ?_
  exact⟨s,Hp.bT Hp.aH n2,rfl,by simp[U9]⟩
structure nR (s:Hp) (n:gM) (x y:AV) (av kv:List AV):Prop where
 rows:cn mA n.rows av
 kids:cn eK n.kids kv
 sx:Sl s 2 x av
 sy:Sl s 37 y kv
 lr:n.rows.length≤100000
 lk:n.kids.length≤100000
theorem nR.mono {s s':Hp}{n:gM}{x y:AV}{av kv:List AV} (h:nR s n x y av kv) (hs:s.sub s'):nR s' n x y av kv:=⟨h.rows,h.kids,h.sx.mono hs,h.sy.mono hs,h.lr,h.lk⟩
theorem nR.lx {s:Hp}{n:gM}{x y:AV}{av kv:List AV} (h:nR s n x y av kv):wN x=some (.v (.int .i64 n.rows.length)):=by rw[h.sx.len,h.rows.len]
theorem nR.ly {s:Hp}{n:gM}{x y:AV}{av kv:List AV} (h:nR s n x y av kv):wN y=some (.v (.int .i64 n.kids.length)):=by rw[h.sy.len,h.kids.len]
abbrev xS (n:gM) (x y:AV):AV:= .agg [.v (.int .u8 (n.kind.toNat:Int)),x,y]
theorem Bv (x:UInt8) (c:Nat) (hc:c<256):(decide ((x.toNat:Int)=(c:Int)))=decide (x=UInt8.ofNat c):=by
 have:((x.toNat:Int)=(c:Int))↔x=UInt8.ofNat c:=by
  rw[←UInt8.toNat_inj,UInt8.toNat_ofNat'];omega
 simp only[this]
theorem WE (n:gM) (av kv:List AV) (x y:AV) (d:Nat) (bq:1≤d) (bg:d≤8) (s:Hp) (hN:nR s n x y av kv):
  AC Tryz.prog 132 [xS n x y,.v (.int .i64 (d:Int))] s fun r s'=>s'=s∧r= .v (.bool (py d n)):=by
 have lr:=hN.lx;have lk:=hN.ly
 have h1:=hN.lr;have h2:=hN.lk
 refine cR hm a9A (by simp) ?_
 have e0: ∀cs,(AV.agg cs).cells=cs:=fun _=>rfl
 refine sr @e0 ?_
 refine cP fun l2 n2=> ?_
 refine sr @e0 ?_
 refine cP fun l3 n3=> ?_
 have d23:l2≠l3:=by rintro rfl;rw[Hp.bt]at n3;cases n3
 have d32:=Ne.symm d23
 have AK:s l3=none:=by rw[Hp.aX _ _ d32]at n3;exact n3
 have dm:=Hp.bT (o:= .cells [.v (.int .i64 (d:Int))]) (Hp.bT (o:= .cells [.v (.int .u8 (n.kind.toNat:Int)),x,y]) (Hp.aH (s:=s)) n2) AK
 have c2:((s.set l2 (.cells [.v (.int .u8 (n.kind.toNat:Int)),x,y])).set l3 (.cells [.v (.int .i64 (d:Int))])) l2=some (.cells [.v (.int .u8 (n.kind.toNat:Int)),x,y]):=by rw[Hp.aX _ _ d23,Hp.bt]
 have c3:((s.set l2 (.cells [.v (.int .u8 (n.kind.toNat:Int)),x,y])).set l3 (.cells [.v (.int .i64 (d:Int))])) l3=some (.cells [.v (.int .i64 (d:Int))]):=Hp.bt _ _ _
 have w1: ¬(d:Int)<1:=by omega
 have w2: ¬(8:Int)<(d:Int):=by omega
 refine sr @e0 ?_
 have HX: ∀sB:Hp,sB l3=some (.cells [.v (.int .i64 (d:Int))])→(tR mA sB 163 [] [.ptr l3 0] fun r=>decide (r.1.length=d))∧tR eK sB 165 [] [.ptr l3 0] (xR d)∧(tR eK sB 167 [] [] fun k=>decide (k.key.length=0))∧(tR mA sB 168 [] [] fun r=>r.2)∧(tR eK sB 169 [] [.ptr l3 0] fun k=>decide (k.key.length=d)&& !decide (k=cO)):=by
  intro sB c3
  have f3: ∀s',sB.sub s'→s'.read l3=some [.v (.int .i64 (d:Int))]:=fun s' hs=>Hp.aV (hs _ _ c3)
  have H1:tR mA sB 163 [] [.ptr l3 0] fun r=>decide (r.1.length=d):=⟨by kernel_rfl,fun x a s' hx hs=>a8A d x a hx s' l3 (f3 s' hs)⟩
  have H2:tR eK sB 165 [] [.ptr l3 0] (xR d):=⟨by kernel_rfl,fun x a s' hx hs=>a8B d (by omega) x a hx s' l3 (f3 s' hs)⟩
  have H3:tR eK sB 167 [] [] fun k=>decide (k.key.length=0):=⟨by kernel_rfl,fun x a s' hx hs=>a8C x a hx s'⟩
  have H4:tR mA sB 168 [] [] fun r=>r.2:=⟨by kernel_rfl,fun x a s' hx hs=>a8D x a hx s'⟩
  have H5:tR eK sB 169 [] [.ptr l3 0] fun k=>decide (k.key.length=d)&& !decide (k=cO):=⟨by kernel_rfl,fun x a s' hx hs=>a8E d x a hx s' l3 (f3 s' hs)⟩
  exact⟨H1,H2,H3,H4,H5⟩
 obtain⟨H1,H2,H3,H4,H5⟩:=HX _ c3
 refine sr (c4 @w1 @w2 (Hp.aV c2) (Hp.aV c3)) ?_
 refine bC (XO n.rows av x _ hN.rows (hN.sx.mono dm) (by omega) H1) ?_
 rintro _ _ ⟨rfl,rfl⟩
 unfold py
 cases q1:n.rows.all (fun r=>decide (r.1.length=d))with
 |false=>
  refine sr (c8 @w1 @w2 (Hp.aV c2) (Hp.aV c3) @Hp.aX @d23 @d32 @Bool.not_false) ?_
  exact⟨s,dm,by simp⟩
 |true=>
 refine sr (c8 @w1 @w2 (Hp.aV c2) (Hp.aV c3) @Hp.aX @d23 @d32 @Bool.not_true) ?_
 refine bC (QM n.kids kv y _ hN.kids (hN.sy.mono dm) (by omega) H2) ?_
 rintro _ _ ⟨rfl,rfl⟩
 cases q2:n.kids.all (xR d)with
 |false=>
  refine sr (c8 @w1 @w2 (Hp.aV c2) (Hp.aV c3) @Hp.aX @d23 @d32 @Bool.not_false) ?_
  exact⟨s,dm,by simp⟩
 |true=>
 have b1:=Bv n.kind 1 (by omega)
 have b2:=Bv n.kind 2 (by omega)
 have b3:=Bv n.kind 3 (by omega)
 simp only[Int.natCast_one,Int.cast_ofNat_Int]at b1 b2 b3
 by_cases k1:n.kind=1
 ·have i1:((n.kind.toNat:Int)=1)=True:=by rw[k1];simp
  refine sr (kg @w1 @w2 (Hp.aV c2) (Hp.aV c3) @Hp.aX @d23 @d32 @Bool.not_true @i1 @lr @lk) ?_
  by_cases k2:(n.rows.length:Int)=1
  ·by_cases k3:(n.kids.length:Int)=2
   ·refine sr (oS @w1 @w2 (Hp.aV c2) (Hp.aV c3) @Hp.aX @d23 @d32 @Bool.not_true @k2 @k3 @lr @lk) ?_
    refine bC (QM n.kids kv y _ hN.kids (hN.sy.mono dm) (by omega) H3) ?_
    rintro _ _ ⟨rfl,rfl⟩
    refine dD ?_
    have xj:n.rows.length=1:=by omega
    have we:n.kids.length=2:=by omega
    exact⟨s,dm,rfl,by simp[k1,xj,we]⟩
   ·have we: ¬n.kids.length=2:=by omega
    refine sr (oS @w1 @w2 (Hp.aV c2) (Hp.aV c3) @Hp.aX @d23 @d32 @Bool.not_true @k2 @k3 @lr @lk) ?_
    exact⟨s,dm,rfl,by simp[k1,we]⟩
  ·have xj: ¬n.rows.length=1:=by omega
   refine sr (kg @w1 @w2 (Hp.aV c2) (Hp.aV c3) @Hp.aX @d23 @d32 @Bool.not_true @k2 @lr @lk) ?_
   exact⟨s,dm,rfl,by simp[k1,xj]⟩
 have i1: ¬(n.kind.toNat:Int)=1:=fun h=>k1 (by have:=b1;simp only[h,decide_true]at this;simpa using this.symm)
 by_cases j1:n.kind=2
 ·have i2:((n.kind.toNat:Int)=2)=True:=by rw[j1];simp
  refine sr (oS @w1 @w2 (Hp.aV c2) (Hp.aV c3) @Hp.aX @d23 @d32 @Bool.not_true @i1 @i2 @lr @lk) ?_
  by_cases k2:(1:Int)≤n.rows.length
  ·by_cases k3:(n.rows.length:Int)≤4
   ·by_cases k4:(n.kids.length:Int)=0
    ·refine sr (qE @w1 @w2 (Hp.aV c2) (Hp.aV c3) @Hp.aX @d23 @d32 @Bool.not_true @lr @lk @k2 @k3 @k4) ?_
     refine bC (XO n.rows av x _ hN.rows (hN.sx.mono dm) (by omega) H4) ?_
     rintro _ _ ⟨rfl,rfl⟩
     refine dD ?_
     have xj:1≤n.rows.length:=by omega
     have we:n.rows.length≤4:=by omega
     have Gw:n.kids.length=0:=by omega
     exact⟨s,dm,rfl,by simp[j1,xj,we,Gw]⟩
    ·have Gw: ¬n.kids.length=0:=by omega
     refine sr (qE @w1 @w2 (Hp.aV c2) (Hp.aV c3) @Hp.aX @d23 @d32 @Bool.not_true @lr @lk @k2 @k3 @k4) ?_
     exact⟨s,dm,rfl,by simp only[j1,Gw,decide_false,Bool.and_false,Bool.false_and];simp⟩
   ·have we: ¬n.rows.length≤4:=by omega
    refine sr (oS @w1 @w2 (Hp.aV c2) (Hp.aV c3) @Hp.aX @d23 @d32 @Bool.not_true @lr @lk @k2 @k3) ?_
    exact⟨s,dm,rfl,by simp only[j1,we,decide_false,Bool.and_false,Bool.false_and];simp⟩
  ·have xj: ¬1≤n.rows.length:=by omega
   refine sr (kg @w1 @w2 (Hp.aV c2) (Hp.aV c3) @Hp.aX @d23 @d32 @Bool.not_true @lr @lk @k2) ?_
   exact⟨s,dm,rfl,by simp only[j1,xj,decide_false,Bool.and_false,Bool.false_and];simp⟩
 have i2: ¬(n.kind.toNat:Int)=2:=fun h=>j1 (by have:=b2;simp only[h,decide_true]at this;simpa using this.symm)
 by_cases z1:n.kind=3
 ·have i3:((n.kind.toNat:Int)=3)=True:=by rw[z1];simp
  refine sr (qE @w1 @w2 (Hp.aV c2) (Hp.aV c3) @Hp.aX @d23 @d32 @Bool.not_true @i1 @i2 @i3 @lr @lk) ?_
  by_cases k2:(n.rows.length:Int)=0
  ·by_cases k3:(2:Int)≤n.kids.length
   ·by_cases k4:(n.kids.length:Int)≤4
    ·refine sr (qE @w1 @w2 (Hp.aV c2) (Hp.aV c3) @Hp.aX @d23 @d32 @Bool.not_true @lr @lk @k2 @k3 @k4) ?_
     refine bC (QM n.kids kv y _ hN.kids (hN.sy.mono dm) (by omega) H5) ?_
     rintro _ _ ⟨rfl,rfl⟩
     refine dD ?_
     have xj:n.rows.length=0:=by omega
     have we:2≤n.kids.length:=by omega
     have Gw:n.kids.length≤4:=by omega
     exact⟨s,dm,rfl,by simp[z1,xj,we,Gw]⟩
    ·have Gw: ¬n.kids.length≤4:=by omega
     refine sr (qE @w1 @w2 (Hp.aV c2) (Hp.aV c3) @Hp.aX @d23 @d32 @Bool.not_true @lr @lk @k2 @k3 @k4) ?_
     exact⟨s,dm,rfl,by simp only[z1,Gw,decide_false,Bool.and_false,Bool.false_and];simp⟩
   ·have we: ¬2≤n.kids.length:=by omega
    refine sr (oS @w1 @w2 (Hp.aV c2) (Hp.aV c3) @Hp.aX @d23 @d32 @Bool.not_true @lr @lk @k2 @k3) ?_
    exact⟨s,dm,rfl,by simp only[z1,we,decide_false,Bool.and_false,Bool.false_and];simp⟩
  ·have xj: ¬n.rows.length=0:=by omega
   refine sr (kg @w1 @w2 (Hp.aV c2) (Hp.aV c3) @Hp.aX @d23 @d32 @Bool.not_true @lr @lk @k2) ?_
   exact⟨s,dm,rfl,by simp only[z1,xj,decide_false,Bool.and_false,Bool.false_and];simp⟩
 have i3: ¬(n.kind.toNat:Int)=3:=fun h=>z1 (by have:=b3;simp only[h,decide_true]at this;simpa using this.symm)
 refine sr (kg @w1 @w2 (Hp.aV c2) (Hp.aV c3) @Hp.aX @d23 @d32 @Bool.not_true @i1 @i2 @i3) ?_
 exact⟨s,dm,rfl,by simp[k1,j1,z1]⟩
theorem Kg {α β:Type}{B:α→List β}{c:Nat}: ∀ {l:List α},(∀x∈l,(B x).length≤c)→(l.flatMap B).length≤l.length*c
 | [],_=>by simp
 |x::l,h=>by
  have h1:=h x (by simp)
  have h2:=Kg (l:=l) fun y hy=>h y (by simp[hy])
  rw[List.flatMap_cons,List.length_append,List.length_cons,Nat.add_mul];omega
structure Kd.Le (k:Kd):Prop where
 lo:k.lo.length≤8
 hi:k.hi.length≤8
 key:k.key.length≤8
 NO:0≤k.live
 live:k.live≤1048576
 NP:0≤k.size
 size:k.size≤1048576
theorem a77 {lo hi:List Int}{d:Nat} (h:v9 lo hi d=true):lo.length=d∧hi.length=d∧1≤d∧d≤8:=by
 simp only[v9,Bool.and_eq_true,decide_eq_true_eq]at h
 exact⟨h.1.1.2,h.1.2,h.1.1.1.1,h.1.1.1.2⟩
theorem abp {d:Nat}{k:Kd} (h:xR d k=true):k.lo.length≤8∧k.hi.length≤8∧0≤k.live∧k.live≤1048576∧0≤k.size∧k.size≤1048576:=by
 unfold xR at h
 rw[Bool.or_eq_true]at h
 rcases h with h|h
 ·have:k=cO:=of_decide_eq_true h
  subst this;simp[cO]
 ·simp only[Bool.and_eq_true,Bool.not_eq_true',Bool.or_eq_false_iff,decide_eq_false_iff_not]at h
  obtain⟨h1,h2⟩:=h
  have:k.lo.length≤8∧k.hi.length≤8:=by
   split at h2
   ·simp only[Bool.and_eq_true,decide_eq_true_eq]at h2;omega
   ·have:=a77 h2;omega
  omega
theorem MN {d:Nat} (hd:d≤8) {n:gM} (h:py d n=true): ∀k∈n.kids,k.Le:=by
 intro k hk
 unfold py at h
 simp only[Bool.and_eq_true,List.all_eq_true]at h
 obtain⟨⟨_,h1⟩,h2⟩:=h
 obtain⟨a1,a2,a3,a4,a5,a6⟩:=abp (h1 k hk)
 refine⟨a1,a2,?_,a3,a4,a5,a6⟩
 split at h2
 ·simp only[Bool.and_eq_true,List.all_eq_true,decide_eq_true_eq]at h2
  have:=h2.2 k hk;omega
 split at h2
 ·simp only[Bool.and_eq_true,decide_eq_true_eq]at h2
  have:n.kids= []:=List.eq_nil_of_length_eq_zero h2.1.2
  rw[this]at hk;cases hk
 split at h2
 ·simp only[Bool.and_eq_true,List.all_eq_true,decide_eq_true_eq]at h2
  have:=(h2.2 k hk).1;omega
 ·cases h2
theorem Ys {r:List Int×Bool} (h:r.1.length≤8):(zf r).length≤100:=by simp[zf,Qi];omega
theorem Zq {k:Kd} (hs:k.sum.length=32) (h:k.Le):(xi k).length≤300:=by
 have h1:=h.lo;have h2:=h.hi;have h3:=h.key
 simp[xi,Qi,JI,hs];omega
theorem QN (n:gM) (av kv:List AV) (x y:AV) (d:Nat) (bq:1≤d) (bg:d≤8) (s:Hp) (hN:nR s n x y av kv):
  AC Tryz.prog 98 [xS n x y,.v (.int .i64 (d:Int))] s fun r s'=>s.sub s'∧match KT d n with
   |none=>r= .dr [.sl [] .nil,.v (.int .i64 1)]
   |some b=> ∃o,r= .dr [.sl (b.map bN) o,.v (.int .i64 0)]:=by
 have lr:=hN.lx;have lk:=hN.ly
 have h1:=hN.lr;have h2:=hN.lk
 refine cR hm adA (by simp) ?_
 have e0: ∀cs,(AV.agg cs).cells=cs:=fun _=>rfl
 have em: ∀a b c,cK true 3 [a,b,c]= .agg [a,b,c]:=fun _ _ _=>rfl
 have t3: ∀a b c:AV,List.take 3 [a,b,c]= [a,b,c]:=fun _ _ _=>rfl
 refine sr @e0 ?_
 refine cP fun l2 n2=> ?_
 have dm:=Hp.bT (o:= .cells [.v (.int .u8 (n.kind.toNat:Int)),x,y]) (Hp.aH (s:=s)) n2
 have c2:(s.set l2 (.cells [.v (.int .u8 (n.kind.toNat:Int)),x,y])) l2=some (.cells [.v (.int .u8 (n.kind.toNat:Int)),x,y]):=Hp.bt _ _ _
 simp -dsimp -implicitDefEqProofs (disch:=first|omega|assumption|(simp only[rL,Nat.reduceAdd];try omega)) only[go_sem,simprocAttr,-List.reduceReplicate,e0,t3]
 refine bC (WE n av kv x y d bq bg _ (hN.mono dm)) ?_
 rintro _ _ ⟨rfl,rfl⟩
 unfold KT
 cases cj:py d n with
 |false=>
  refine sr @Bool.not_false ?_
  exact⟨_,Hp.aH,dm⟩
 |true=>
 obtain⟨g1,g2,g3⟩:=Bt cj
 have g4:=MN bg cj
 refine sr @Bool.not_true ?_
 refine cP fun l6 n6=> ?_
 have d26:l2≠l6:=by rintro rfl;rw[Hp.bt]at n6;cases n6
 obtain⟨B,hB⟩: ∃B:Hp,B=s.set l2 (.cells [.v (.int .u8 (n.kind.toNat:Int)),x,y]):=⟨_,rfl⟩
 rw[←hB]at dm c2
 have nB:B l6=none:=by rw[hB];exact n6
 have W0:WS B l6 [] (B.set l6 (.cells [.sl [] .nil,.v (.int .i64 0)])):=⟨.nil,dx.nil Hp.aH⟩
 have hN2:=hN.mono dm
 have Ua:=hN2.sx;have LC:=hN2.sy
 have uE: ∀bs s',WS B l6 bs s'→s' l2=some (.cells [.v (.int .u8 (n.kind.toNat:Int)),x,y]):=fun bs s' h=>h.get d26 c2
 have Ub: ∀bs s',WS B l6 bs s'→B.sub s':=fun bs s' h=>h.sub nB
 have fin:jJ n=([n.kind]++ [UInt8.ofNat n.rows.length]++n.rows.flatMap zf++ [UInt8.ofNat n.kids.length])++n.kids.flatMap xi:=by simp[jJ]
 have b1: ∀i,((n.rows.take i).flatMap zf).length≤400:=fun i=>by
  have:=Kg (l:=n.rows.take i) (c:=100) fun r hr=>Ys (r:=r) (by rw[g1 r (List.mem_of_mem_take hr)];exact bg)
  have h9:(n.rows.take i).length≤4:=by simp;omega
  have:(n.rows.take i).length*100≤4*100:=Nat.mul_le_mul_right _ h9
  omega
 rw[←hB]
 simp -dsimp -implicitDefEqProofs (disch:=first|omega|assumption|(simp only[rL,Nat.reduceAdd];try omega)) only[go_sem,simprocAttr,-List.reduceReplicate,Hp.aV c2,d26]
 refine bC (Fj B _ l6 [] n.kind W0 (by simp)) ?_
 intro _ s3 w3
 simp -dsimp -implicitDefEqProofs (disch:=first|omega|assumption|(simp only[rL,Nat.reduceAdd];try omega)) only[go_sem,simprocAttr,-List.reduceReplicate,Hp.aV (uE _ _ w3),lr,Fh]
 refine bC (Fj B s3 l6 _ (UInt8.ofNat n.rows.length) w3 (by simp)) ?_
 intro _ s4 w4
 simp -dsimp -implicitDefEqProofs (disch:=first|omega|assumption|(simp only[rL,Nat.reduceAdd];try omega)) only[go_sem,simprocAttr,-List.reduceReplicate,Hp.aV (uE _ _ w4),lr]
 refine fS (fun f s'=> ∃i:Nat,i≤n.rows.length∧WS B l6 ([n.kind]++ [UInt8.ofNat n.rows.length]++(n.rows.take i).flatMap zf) s'∧f 2= .ptr l2 0∧f 6= .ptr l6 0∧f 28=x∧f 29= .v (.int .i64 n.rows.length)∧f 30= .v (.int .i64 i))
  (fun f _=>match f 30 with| .v (.int _ m)=>n.rows.length - m.toNat| _=>0) ⟨0,by omega,by simpa using w4,?_⟩ ?_
 ·exact nE
 rintro f s5 ⟨i,hi,w5,f2,f6,f28,f29,f30⟩
 by_cases aW:(i:Int)<n.rows.length
 ·have hw:n.rows[i]? =some n.rows[i]:=List.getElem?_eq_getElem (by omega)
  have ht:n.rows.take (i+1)=n.rows.take i++ [n.rows[i]]:=by rw[List.take_add_one,hw];rfl
  have LD:=g1 _ (List.getElem_mem (l:=n.rows) (n:=i) (by omega))
  generalize n.rows[i]'(by omega)=r at hw ht LD
  obtain⟨a,iB,o9,rfl⟩:=hN.rows.get hw
  obtain⟨p9,e9,gl⟩:=Ua.get i _ iB
  have gj:=gl.ld s5 (Ub _ _ w5) true 2 (by omega) (by simp[AV.cells])
  have tf:=b1 i
  have m2:cK true 2 (AV.agg [.sl (bA r.1) o9,.v (.bool r.2)]).cells= .agg [.sl (bA r.1) o9,.v (.bool r.2)]:=rfl
  rw[m2]at gj
  refine sr (c8 @f2 @f6 @f28 @f29 @f30 @aW @e9 @gj) ?_
  refine cP fun l8 n8=> ?_
  have p2: ∀a b c d:AV,putAt [a,b] 0 [c,d]= [c,d]:=fun _ _ _ _=>rfl
  obtain⟨d86,nB8,w6⟩:=w5.new (ob:= .cells [.sl (bA r.1) o9,.v (.bool r.2)]) n8
  have cB8:(B.set l8 (.cells [.sl (bA r.1) o9,.v (.bool r.2)])) l8=some (.cells [.sl (bA r.1) o9,.v (.bool r.2)]):=Hp.bt _ _ _
  refine sr (c8 @f2 @f6 @f28 @f29 @f30 @e0 @p2 @Hp.set_set) ?_
  refine bC (a4T _ _ l6 _ r.2 w6 (by(simp only[List.length_append,List.length_cons,List.length_nil]at*;omega))) ?_
  intro _ s7 w7
  refine sr (c6 @f2 @f6 @f28 @f29 @f30 (Hp.aV (w7.get d86 cB8))) ?_
  refine bC (MR _ _ l6 _ r.1 o9 (by omega) w7 (by(simp only[List.length_append,List.length_cons,List.length_nil]at*;omega))) ?_
  intro _ s8 w8
  refine sr (c5 @f2 @f6 @f28 @f29 @f30) ?_
  refine⟨⟨i+1,by omega,?_,by simp⟩,by omega⟩
  have w9:=w8.base (Hp.bT (o:= .cells [.sl (bA r.1) o9,.v (.bool r.2)]) (Hp.aH (s:=B)) nB8)
  rw[ht,List.flatMap_append]
  simpa[zf] using w9
 ·obtain rfl:i=n.rows.length:=by omega
  rw[List.take_length]at w5
  have tf:=b1 n.rows.length
  rw[List.take_length]at tf
  simp -dsimp -implicitDefEqProofs (disch:=first|omega|assumption|(simp only[rL,Nat.reduceAdd];try omega)) only[go_sem,simprocAttr,-List.reduceReplicate,f2,f6,f28,f29,f30,aW,Hp.aV (uE _ _ w5),lk,Fh]
  refine bC (Fj B s5 l6 _ (UInt8.ofNat n.kids.length) w5 (by(simp only[List.length_append,List.length_cons,List.length_nil]at*;omega))) ?_
  intro _ sC wC
  have FQ:([n.kind]++ [UInt8.ofNat n.rows.length]++n.rows.flatMap zf++ [UInt8.ofNat n.kids.length]).length≤500:=by(simp only[List.length_append,List.length_cons,List.length_nil]at*;omega)
  generalize [n.kind]++ [UInt8.ofNat n.rows.length]++n.rows.flatMap zf++ [UInt8.ofNat n.kids.length]=P0 at*
  have bk: ∀i,((n.kids.take i).flatMap xi).length≤1200:=fun i=>by
   have:=Kg (l:=n.kids.take i) (c:=300) fun k hk=>by
    have hm:=List.mem_of_mem_take hk
    obtain⟨j,hj,rfl⟩:=List.getElem_of_mem hm
    obtain⟨a,_,gQ,_⟩:=hN.kids.get (List.getElem?_eq_getElem hj)
    exact Zq gQ (g4 _ hm)
   have h9:(n.kids.take i).length≤4:=by simp;omega
   have:(n.kids.take i).length*300≤4*300:=Nat.mul_le_mul_right _ h9
   omega
  simp -dsimp -implicitDefEqProofs (disch:=first|omega|assumption|(simp only[rL,Nat.reduceAdd];try omega)) only[go_sem,simprocAttr,-List.reduceReplicate,f2,f6,Hp.aV (uE _ _ wC),lk]
  refine fS (fun f s'=> ∃i:Nat,i≤n.kids.length∧WS B l6 (P0++(n.kids.take i).flatMap xi) s'∧f 6= .ptr l6 0∧f 50=y∧f 51= .v (.int .i64 n.kids.length)∧f 52= .v (.int .i64 i))
   (fun f _=>match f 52 with| .v (.int _ m)=>n.kids.length - m.toNat| _=>0) ⟨0,by omega,by simpa using wC,?_⟩ ?_
  ·simp -dsimp -implicitDefEqProofs (disch:=first|omega|assumption|(simp only[rL,Nat.reduceAdd];try omega)) only[go_sem,simprocAttr,-List.reduceReplicate,f2,f6]
  clear f2 f6 f28 f29 f30
  rintro f s5 ⟨i,hi,w5,f6,f50,f51,f52⟩
  by_cases aW:(i:Int)<n.kids.length
  ·have hw:n.kids[i]? =some n.kids[i]:=List.getElem?_eq_getElem (by omega)
   have ht:n.kids.take (i+1)=n.kids.take i++ [n.kids[i]]:=by rw[List.take_add_one,hw];rfl
   have vm:=g4 _ (List.getElem_mem (l:=n.kids) (n:=i) (by omega))
   generalize n.kids[i]'(by omega)=k at hw ht vm
   obtain⟨a,iB,gQ,_,o1,o2,o3,rfl⟩:=hN.kids.get hw
   obtain⟨p9,e9,gl⟩:=LC.get i _ iB
   have hK:=eA (o1:=o1) (o2:=o2) (o3:=o3) gQ
   have ek:(AV.agg (aS k o1 o2 o3)).cells=aS k o1 o2 o3:=rfl
   rw[ek]at gl
   have gj:=gl.ld s5 (Ub _ _ w5) true 37 (by omega) (by rw[hK.len];omega)
   rw[show cK true 37 (aS k o1 o2 o3)= .agg (aS k o1 o2 o3) by rw[cK,if_pos rfl,hK.t37]]at gj
   have fL:=hK.len
   generalize aS k o1 o2 o3=K at*
   obtain⟨a1,a2,a3,a4,a5,a6,a7,a8⟩:=hK
   have ju:=bk i
   refine sr (c7 @f6 @f50 @f51 @f52 @aW @e9 @gj) ?_
   refine cP fun kI iL=> ?_
   obtain⟨d10,ai5,w6⟩:=w5.new (ob:= .cells K) iL
   have ai6:(B.set kI (.cells K)) kI=some (.cells K):=Hp.bt _ _ _
   have hlK:=fL
   have lv:=vm.NO;have sz:=vm.NP
   have lv':=vm.live;have sz':=vm.size
   have lo8:=vm.lo;have hi8:=vm.hi;have ky8:=vm.key
   have pz: ∀A:List AV,A.length=37→putAt A 0 K=K:=fun A hA=>by rw[putAt];simp[hA,fL]
   refine sr (gP @f6 @f50 @f51 @f52 @e0 @pz @fL @Hp.set_set @List.length_append.{0} @List.length_replicate.{0}) ?_
   have e1:k.live=(k.live.toNat:Int):=by omega
   have e2:k.size=(k.size.toNat:Int):=by omega
   have cg: ∀bs s',WS (B.set kI (.cells K)) l6 bs s'→s' kI=some (.cells K):=fun bs s' h=>h.get d10 ai6
   rw[a3]
   have q0:(P0++(n.kids.take i).flatMap xi).length≤1700:=by(simp only[List.length_append,List.length_cons,List.length_nil]at*;omega)
   obtain⟨Q0,hQ0⟩: ∃Q,Q=P0++(n.kids.take i).flatMap xi:=⟨_,rfl⟩
   rw[←hQ0]at w6 q0
   refine bC (a4i _ _ l6 _ k.sum gQ w6 (by omega)) ?_
   intro _ s7 w7
   simp -dsimp -implicitDefEqProofs (disch:=first|omega|assumption|(simp only[rL,Nat.reduceAdd];try omega)) only[go_sem,simprocAttr,-List.reduceReplicate,f6,f50,f51,f52,Hp.aV (cg _ _ w7),a6]
   rw[e1]
   refine bC (WB _ _ l6 _ k.live.toNat (by omega) w7 (by(simp only[List.length_append,List.length_cons,List.length_nil]at*;omega))) ?_
   intro _ s8 w8
   simp -dsimp -implicitDefEqProofs (disch:=first|omega|assumption|(simp only[rL,Nat.reduceAdd];try omega)) only[go_sem,simprocAttr,-List.reduceReplicate,f6,f50,f51,f52,Hp.aV (cg _ _ w8),a7]
   rw[e2]
   have cl:=JI k.live.toNat
   have cs:=JI k.size.toNat
   refine bC (WB _ _ l6 _ k.size.toNat (by omega) w8 (by(simp only[List.length_append,List.length_cons,List.length_nil]at*;omega))) ?_
   intro _ s9 w9
   simp -dsimp -implicitDefEqProofs (disch:=first|omega|assumption|(simp only[rL,Nat.reduceAdd];try omega)) only[go_sem,simprocAttr,-List.reduceReplicate,f6,f50,f51,f52,Hp.aV (cg _ _ w9),a4]
   have rl:=fun r=>Qi (r:=r)
   have rlo:=rl k.lo;have rhi:=rl k.hi
   refine bC (MR _ _ l6 _ k.lo o1 (by omega) w9 (by(simp only[List.length_append,List.length_cons,List.length_nil]at*;omega))) ?_
   intro _ sA wA
   simp -dsimp -implicitDefEqProofs (disch:=first|omega|assumption|(simp only[rL,Nat.reduceAdd];try omega)) only[go_sem,simprocAttr,-List.reduceReplicate,f6,f50,f51,f52,Hp.aV (cg _ _ wA),a5]
   refine bC (MR _ _ l6 _ k.hi o2 (by omega) wA (by(simp only[List.length_append,List.length_cons,List.length_nil]at*;omega))) ?_
   intro _ sB wB
   simp -dsimp -implicitDefEqProofs (disch:=first|omega|assumption|(simp only[rL,Nat.reduceAdd];try omega)) only[go_sem,simprocAttr,-List.reduceReplicate,f6,f50,f51,f52,Hp.aV (cg _ _ wB),a8]
   refine bC (MR _ _ l6 _ k.key o3 (by omega) wB (by(simp only[List.length_append,List.length_cons,List.length_nil]at*;omega))) ?_
   intro _ sC' wC'
   refine sr (c4 @f6 @f50 @f51 @f52) ?_
   refine⟨⟨i+1,by omega,?_,by simp⟩,by omega⟩
   have w9:=wC'.base (Hp.bT (o:= .cells K) (Hp.aH (s:=B)) ai5)
   rw[ht,List.flatMap_append,←List.append_assoc,←hQ0]
   simpa[xi] using w9
  ·obtain rfl:i=n.kids.length:=by omega
   rw[List.take_length]at w5
   have q0:=bk n.kids.length
   rw[List.take_length]at q0
   refine sr (c5 @f6 @f50 @f51 @f52 @aW) ?_
   refine bC (a4Q _ s5 l6 _ w5 (by(simp only[List.length_append,List.length_cons,List.length_nil]at*;omega))) ?_
   rintro _ s6 ⟨o6,h6,rfl⟩
   refine sr @f6 ?_
   refine bC (a6Y _ s6 l6 _ (w5.mono h6.sub)) ?_
   rintro _ s6 ⟨rfl,rfl⟩
   refine dD ?_
   refine⟨_,Hp.aH,Hp.cy dm (Hp.cy (w5.sub nB) h6.sub),o6,?_⟩
   rw[fin]
theorem fl:(List.replicate 32 (AV.v (.int .u8 0))++ [AV.sl [] .nil,.sl [] .nil]++ [AV.v (.int .i64 0),.v (.int .i64 0)]++ [AV.sl [] .nil])=aS cO .nil .nil .nil:=by
 rw[show List.replicate 32 (AV.v (.int .u8 0))=(List.replicate 32 (0:UInt8)).map bN by rw[List.map_replicate];rfl]
 simp only[List.append_assoc];rfl
theorem a0E {k:Kd}{o1 o2 o3:Own}{d:List UInt8} (h:k.sum.length=32) (hd:d.length=32):putAt (aS k o1 o2 o3) 0 (d.map bN)=aS {k with sum:=d} o1 o2 o3:=by
 have h2:(k.sum.map bN).length=32:=by simp[h]
 simp only[aS,putAt,List.take_zero,List.nil_append,List.length_map,hd]
 rw[List.drop_append,List.drop_eq_nil_of_le (by omega),h2];rfl
theorem Nk {A:List AV}{a b c d e:AV} (h:A.length=32):(∀x y,putAt (A++ [a,b,c,d,e]) 32 [x,y]=A++ [x,y,c,d,e])∧(∀x,putAt (A++ [a,b,c,d,e]) 34 [x]=A++ [a,b,x,d,e])∧
  (∀x,putAt (A++ [a,b,c,d,e]) 35 [x]=A++ [a,b,c,x,e])∧ ∀x,putAt (A++ [a,b,c,d,e]) 36 [x]=A++ [a,b,c,d,x]:=by
 have t: ∀n (l:List AV),(A++l).take (32+n)=A++l.take n:=fun n l=>by rw[←h,List.take_length_add_append]
 have g: ∀n (l:List AV),(A++l).drop (32+n)=l.drop n:=fun n l=>by rw[←h,List.drop_length_add_append]
 have t0:=t 0;have t2:=t 2;have t3:=t 3;have t4:=t 4
 have g1:=g 2;have g3:=g 3;have g4:=g 4;have g5:=g 5
 simp only[Nat.add_zero,Nat.reduceAdd]at t0 t2 t3 t4 g1 g3 g4 g5
 refine⟨fun x y=> ?_,fun x=> ?_,fun x=> ?_,fun x=> ?_⟩<;>simp only[putAt,List.length_cons,List.length_nil,Nat.zero_add,Nat.reduceAdd,t0,t2,t3,t4,g1,g3,g4,g5]<;>simp
theorem RR {k:Kd}{o1 o2 o3:Own}{x:Int} (h:k.sum.length=32):putAt (aS k o1 o2 o3) 34 [.v (.int .i64 x)]=aS {k with live:=x} o1 o2 o3:=(Nk (by simp[h])).2.1 _
theorem RT {k:Kd}{o1 o2 o3:Own}{x:Int} (h:k.sum.length=32):putAt (aS k o1 o2 o3) 35 [.v (.int .i64 x)]=aS {k with size:=x} o1 o2 o3:=(Nk (by simp[h])).2.2.1 _
theorem RU {k:Kd}{o1 o2 o3 p:Own}{x:List Int} (h:k.sum.length=32):putAt (aS k o1 o2 o3) 36 [.sl (bA x) p]=aS {k with key:=x} o1 o2 p:=(Nk (by simp[h])).2.2.2 _
theorem a0f {k:Kd}{o1 o2 o3 p q:Own}{x y:List Int} (h:k.sum.length=32):putAt (aS k o1 o2 o3) 32 [.sl (bA x) p,.sl (bA y) q]=aS {k with lo:=x,hi:=y} p q o3:=(Nk (by simp[h])).1 _ _
theorem jV {k j:Kd}{o1 o2 o3 p1 p2 p3:Own} (h:k.sum.length=32) (hj:j.sum.length=32):putAt (aS k o1 o2 o3) 0 (aS j p1 p2 p3)=aS j p1 p2 p3:=by
 have h1:=(eA (o1:=o1) (o2:=o2) (o3:=o3) h).len
 have h2:=(eA (o1:=p1) (o2:=p2) (o3:=p3) hj).len
 rw[putAt,List.take_zero,List.nil_append,h2,List.drop_eq_nil_of_le (by omega),List.append_nil]
theorem eY:cO.sum.length=32:=by simp[cO]
theorem JZ {r:List Int}:(tE r).1.length≤8∧(tE r).2.length≤8:=by
 unfold tE;split
 ·rename_i h;exact⟨h.2,h.2⟩
 ·simp
theorem Ra {n:gM}{d:Nat} (bg:d≤8) (cj:py d n=true) (gQ: ∀k∈n.kids,k.sum.length=32):(jJ n).length≤2000:=by
 obtain⟨g1,g2,g3⟩:=Bt cj
 have g4:=MN bg cj
 have a1:=Kg (l:=n.rows) (c:=100) fun r hr=>Ys (r:=r) (by rw[g1 r hr];exact bg)
 have a2:=Kg (l:=n.kids) (c:=300) fun k hk=>Zq (gQ k hk) (g4 k hk)
 have a3:n.rows.length*100≤4*100:=Nat.mul_le_mul_right _ g2
 have a4:n.kids.length*300≤4*300:=Nat.mul_le_mul_right _ g3
 unfold jJ
 have e:(n.kids.flatMap fun k=>xi k)=n.kids.flatMap xi:=rfl
 rw[e]at a2
 simp only[List.length_append,List.length_cons];omega
theorem cn.all {n:gM}{kv:List AV} (h:cn eK n.kids kv): ∀k∈n.kids,k.sum.length=32∧k.Sh:=by
 intro k hk
 obtain⟨j,hj,rfl⟩:=List.getElem_of_mem hk
 obtain⟨a,_,gQ,hs,_⟩:=h.get (List.getElem?_eq_getElem hj)
 exact⟨gQ,hs⟩
abbrev lq (sm:List UInt8) (S:Sy):Kd:=⟨sm,S.bx.1,S.bx.2,S.live,S.size,[]⟩
theorem XP (n:gM) (av kv:List AV) (x y:AV) (d:Nat) (bq:1≤d) (bg:d≤8) (s:Hp) (hN:nR s n x y av kv):
  AC Tryz.prog 97 [xS n x y,.v (.int .i64 (d:Int))] s fun r s'=>s.sub s'∧match sS d n with
   |none=>r= .dr [.agg (aS cO .nil .nil .nil),.v (.int .i64 1)]
   |some k=> ∃o1 o2 o3,r= .dr [.agg (aS k o1 o2 o3),.v (.int .i64 0)]:=by
 have lr:=hN.lx;have lk:=hN.ly
 have h1:=hN.lr;have h2:=hN.lk
 have zc:=eA (o1:= .nil) (o2:= .nil) (o3:= .nil) eY
 have zl:=zc.len;have zt:=zc.t37
 have cl: ∀ {k:Kd} (o1 o2 o3:Own),k.sum.length=32→(aS k o1 o2 o3).length=37:=fun o1 o2 o3 h=>(eA h).len
 have ct: ∀ {k:Kd} (o1 o2 o3:Own),k.sum.length=32→(aS k o1 o2 o3).take 37=aS k o1 o2 o3:=fun o1 o2 o3 h=>(eA h).t37
 refine cR hm adz (by simp) ?_
 have e0: ∀cs,(AV.agg cs).cells=cs:=fun _=>rfl
 have em: ∀a b c,cK true 3 [a,b,c]= .agg [a,b,c]:=fun _ _ _=>rfl
 have t3: ∀a b c:AV,List.take 3 [a,b,c]= [a,b,c]:=fun _ _ _=>rfl
 refine sr @e0 ?_
 refine cP fun l2 n2=> ?_
 refine sr (c2 @e0 @fl) ?_
 refine cP fun l4 n4=> ?_
 have d24:l2≠l4:=by rintro rfl;rw[Hp.bt]at n4;cases n4
 have lQ:s l4=none:=by rw[Hp.aX _ _ (Ne.symm d24)]at n4;exact n4
 obtain⟨B,hB⟩: ∃B:Hp,B=(s.set l2 (.cells [.v (.int .u8 (n.kind.toNat:Int)),x,y])).set l4 (.cells (aS cO .nil .nil .nil)):=⟨_,rfl⟩
 have dm:s.sub B:=by rw[hB];exact Hp.bT (Hp.bT (Hp.aH (s:=s)) n2) lQ
 have c2:B l2=some (.cells [.v (.int .u8 (n.kind.toNat:Int)),x,y]):=by rw[hB,Hp.aX _ _ d24,Hp.bt]
 have c4:B l4=some (.cells (aS cO .nil .nil .nil)):=by rw[hB,Hp.bt]
 refine sr (c7 @e0 @t3 @em @fl @Hp.aX @d24 @Hp.bt) ?_
 rw[←hB]
 refine bC (QN n av kv x y d bq bg _ (hN.mono dm)) ?_
 rintro r s1 ⟨Uc,hr⟩
 have g2:=Uc _ _ c2;have g4:=Uc _ _ c4
 have wQ:=Hp.cy dm Uc
 have fin: ∀(s':Hp) (ob:Ob),s.sub s'→s.sub (s'.set l4 ob):=fun s' ob h=>Hp.bT h lQ
 unfold KT at hr
 unfold sS
 cases cj:py d n with
 |false=>
  rw[cj]at hr
  obtain rfl:=hr
  refine sr (c7 @e0 @fl (Hp.dG g4) @zl @zt @jV @eY) ?_
  exact⟨_,Hp.aH,fin _ _ wQ⟩
 |true=>
  rw[cj]at hr
  obtain⟨o,rfl⟩:=hr
  obtain⟨b1,b2,b3⟩:=Bt cj
  have b4:=MN bg cj
  have b5:=hN.kids.all
  have b6:=Ra bg cj fun k hk=>(b5 k hk).1
  have mO:(q9 (jJ n)).length=32:=HA _
  refine sr (c3 @e0 (Hp.aV g2) @lr) ?_
  refine bC (XM (jJ n) o _ (by omega)) ?_
  rintro _ s1 ⟨rfl,rfl⟩
  unfold vO
  generalize q9 (jJ n)=sm at*
  have kC:(dg sm).cells=sm.map bN:=rfl
  have pz:putAt (aS cO .nil .nil .nil) 0 (sm.map bN)=aS ⟨sm,[],[],0,0,[]⟩ .nil .nil .nil:=a0E eY mO
  have px: ∀x:Int,putAt (aS ⟨sm,[],[],0,0,[]⟩ .nil .nil .nil) 35 [.v (.int .i64 x)]=aS (lq sm ⟨0,x,([],[])⟩) .nil .nil .nil:=fun x=>RT mO
  have cS: ∀(S:Sy) (o1 o2:Own),U7 (lq sm S) o1 o2 .nil (aS (lq sm S) o1 o2 .nil):=fun S o1 o2=>eA mO
  have ez:(AV.v (.int .i64 (n.rows.length:Int))).cells= [.v (.int .i64 (n.rows.length:Int))]:=rfl
  have l0:(aS ⟨sm,[],[],0,0,[]⟩ .nil .nil .nil).length=37:=(eA mO).len
  have l0':=(cS ⟨0,n.rows.length,([],[])⟩ .nil .nil).len
  have q0:putAt (aS cO .nil .nil .nil) 0 (aS (lq sm ⟨0,n.rows.length,([],[])⟩) .nil .nil .nil)=aS (lq sm ⟨0,n.rows.length,([],[])⟩) .nil .nil .nil:=jV eY mO
  have LF:(sm.map bN).length=32:=by simp[mO]
  refine sr (qE @e0 @kC @fl @pz @px @ez @zl @l0 @l0' @LF @q0 (Hp.aV g2) @lr) ?_
  refine cP fun l8 n8=> ?_
  have d28:l2≠l8:=by rintro rfl;rw[g2]at n8;cases n8
  have d48:l4≠l8:=by rintro rfl;rw[g4]at n8;cases n8
  have k2:(s1.set l8 (.cells (aS (lq sm ⟨0,n.rows.length,([],[])⟩) .nil .nil .nil))) l2=some (.cells [.v (.int .u8 (n.kind.toNat:Int)),x,y]):=by rw[Hp.aX _ _ d28];exact g2
  have k4:(s1.set l8 (.cells (aS (lq sm ⟨0,n.rows.length,([],[])⟩) .nil .nil .nil))) l4=some (.cells (aS cO .nil .nil .nil)):=by rw[Hp.aX _ _ d48];exact g4
  have k8:(s1.set l8 (.cells (aS (lq sm ⟨0,n.rows.length,([],[])⟩) .nil .nil .nil))) l8=some (.cells (aS (lq sm ⟨0,n.rows.length,([],[])⟩) .nil .nil .nil)):=Hp.bt _ _ _
  have nV:=Hp.iJ wQ n8
  have Ac:=Hp.cy wQ (Hp.bT (o:= .cells (aS (lq sm ⟨0,n.rows.length,([],[])⟩) .nil .nil .nil)) (Hp.aH (s:=s1)) n8)
  refine sr (qF @e0 @kC @fl @pz @px @ez @zl @l0 @l0' @LF @q0 (Hp.aV k2) @lr @Hp.set_set) ?_
  have q2: ∀a b c d e:AV,List.take 2 [a,b,c,d,e]= [a,b]:=fun _ _ _ _ _=>rfl
  have p2: ∀a b c d:AV,putAt [a,b] 0 [c,d]= [c,d]:=fun _ _ _ _=>rfl
  refine fS (fun f s'=> ∃(i:Nat) (S:Sy) (o1 o2:Own),i≤n.rows.length∧S=(n.rows.take i).foldl wP ⟨0,n.rows.length,([],[])⟩∧(0≤S.live∧S.live≤i∧S.size=n.rows.length∧S.bx.1.length≤8∧S.bx.2.length≤8)∧
    s.sub s'∧s' l2=some (.cells [.v (.int .u8 (n.kind.toNat:Int)),x,y])∧s' l4=some (.cells (aS cO .nil .nil .nil))∧s' l8=some (.cells (aS (lq sm S) o1 o2 .nil))∧
    f 2= .ptr l2 0∧f 4= .ptr l4 0∧f 8= .ptr l8 0∧f 30=x∧f 31= .v (.int .i64 n.rows.length)∧f 32= .v (.int .i64 i))
   (fun f _=>match f 32 with| .v (.int _ m)=>n.rows.length - m.toNat| _=>0) ⟨0,⟨0,n.rows.length,([],[])⟩,.nil,.nil,by omega,by simp,by simp,?_,?_⟩ ?_
  ·rw[Hp.set_set];exact Ac
  ·simp -dsimp -implicitDefEqProofs (disch:=first|omega|assumption|(simp only[rL,Nat.reduceAdd];try omega)) only[go_sem,simprocAttr,-List.reduceReplicate,List.take_zero,List.foldl_nil]
   exact⟨k2,k4,k8⟩
  rintro f s5 ⟨i,S,o1,o2,hi,hS,⟨v1,v2,v3,v4,v5⟩,jM,c2,c4,c8,f2,f4,f8,f30,f31,f32⟩
  have hC:=cS S o1 o2
  by_cases aW:(i:Int)<n.rows.length
  ·have hw:n.rows[i]? =some n.rows[i]:=List.getElem?_eq_getElem (by omega)
   have ht:n.rows.take (i+1)=n.rows.take i++ [n.rows[i]]:=by rw[List.take_add_one,hw];rfl
   have LD:=b1 _ (List.getElem_mem (l:=n.rows) (n:=i) (by omega))
   generalize n.rows[i]'(by omega)=r at hw ht LD
   obtain⟨a,iB,o9,rfl⟩:=hN.rows.get hw
   obtain⟨p9,e9,gl⟩:=(hN.sx.mono jM).get i _ iB
   have gj:=gl.ld s5 Hp.aH true 2 (by omega) (by simp[AV.cells])
   have m2:cK true 2 (AV.agg [.sl (bA r.1) o9,.v (.bool r.2)]).cells= .agg [.sl (bA r.1) o9,.v (.bool r.2)]:=rfl
   rw[m2]at gj
   have sn:(n.rows.take (i+1)).foldl wP ⟨0,n.rows.length,([],[])⟩=wP S r:=by rw[ht,List.foldl_append,hS];rfl
   refine sr (c9 @f2 @f4 @f8 @f30 @f31 @f32 @aW @e9 @gj) ?_
   refine cP fun kI iL=> ?_
   have dA:l2≠kI:=by rintro rfl;rw[c2]at iL;cases iL
   have dB:l4≠kI:=by rintro rfl;rw[c4]at iL;cases iL
   have dC:l8≠kI:=by rintro rfl;rw[c8]at iL;cases iL
   have ON:=Ne.symm dC
   have xT:=Hp.iJ jM iL
   cases hr:r.2 with
   |false=>
    refine sr (c9 @f2 @f4 @f8 @f30 @f31 @f32 @e0 @p2 @Hp.set_set) ?_
    refine⟨⟨i+1,S,o1,o2,by omega,?_,⟨v1,by omega,v3,v4,v5⟩,Hp.bT jM xT,?_⟩,by omega⟩
    ·rw[sn,wP,hr];simp
    ·simp[Hp.aX,dA,dB,dC,c2,c4,c8]
   |true=>
    have Gx:(AV.v (.int .i64 (S.live+1))).cells= [.v (.int .i64 (S.live+1))]:=rfl
    have lS:=hC.len
    have pS:putAt (aS (lq sm S) o1 o2 .nil) 34 [.v (.int .i64 (S.live+1))]=aS (lq sm {S with live:=S.live+1}) o1 o2 .nil:=RR mO
    have yi:=cS {S with live:=S.live+1} o1 o2
    have Gy:=yi.len
    refine sr (c20 @f2 @f4 @f8 @f30 @f31 @f32 @e0 @p2 @Hp.set_set @Hp.aX @dC @ON hC.d34 @Gx @lS @pS (Hp.aV c8) (Hp.dG c8) yi.d32 @q2) ?_
    have j8:((s5.set kI (.cells [.sl (bA r.1) o9,.v (.bool true)])).set l8 (.cells (aS (lq sm {S with live:=S.live+1}) o1 o2 .nil))) l8=some (.cells (aS (lq sm {S with live:=S.live+1}) o1 o2 .nil)):=Hp.bt _ _ _
    have tS:((s5.set kI (.cells [.sl (bA r.1) o9,.v (.bool true)])).set l8 (.cells (aS (lq sm {S with live:=S.live+1}) o1 o2 .nil))) kI=some (.cells [.sl (bA r.1) o9,.v (.bool true)]):=by rw[Hp.aX _ _ ON,Hp.bt]
    have j2:((s5.set kI (.cells [.sl (bA r.1) o9,.v (.bool true)])).set l8 (.cells (aS (lq sm {S with live:=S.live+1}) o1 o2 .nil))) l2=some (.cells [.v (.int .u8 (n.kind.toNat:Int)),x,y]):=by rw[Hp.aX _ _ d28,Hp.aX _ _ dA];exact c2
    have j4:((s5.set kI (.cells [.sl (bA r.1) o9,.v (.bool true)])).set l8 (.cells (aS (lq sm {S with live:=S.live+1}) o1 o2 .nil))) l4=some (.cells (aS cO .nil .nil .nil)):=by rw[Hp.aX _ _ d48,Hp.aX _ _ dB];exact c4
    have js:s.sub ((s5.set kI (.cells [.sl (bA r.1) o9,.v (.bool true)])).set l8 (.cells (aS (lq sm {S with live:=S.live+1}) o1 o2 .nil))):=Hp.bT (Hp.bT jM xT) nV
    refine bC (a8y _ r.1 o9 (by omega)) ?_
    rintro _ s6 ⟨h6,w1,w2,rfl⟩
    replace j8:=h6 _ _ j8;replace tS:=h6 _ _ tS;replace j2:=h6 _ _ j2;replace j4:=h6 _ _ j4;replace js:=Hp.cy js h6
    clear h6
    have bl:=JZ (r:=r.1)
    have bl1:=bl.1;have bl2:=bl.2
    refine sr (oS @f2 @f4 @f8 @f30 @f31 @f32 @e0 @p2 (Hp.aV j8) (Hp.aV tS) yi.d32 @q2) ?_
    refine bC (X9 _ S.bx.1 S.bx.2 (tE r.1).1 (tE r.1).2 o1 o2 w1 w2 (by omega) (by omega) (by omega) (by omega)) ?_
    rintro _ s7 ⟨h7,rfl⟩
    replace j8:=h7 _ _ j8;replace tS:=h7 _ _ tS;replace j2:=h7 _ _ j2;replace j4:=h7 _ _ j4;replace js:=Hp.cy js h7
    clear h7
    have hl:=HH S.bx (tE r.1) 8 v4 v5 bl1 bl2
    have pH:putAt (aS (lq sm {S with live:=S.live+1}) o1 o2 .nil) 32 [.sl (bA (pB S.bx (tE r.1)).1) .any,.sl (bA (pB S.bx (tE r.1)).2) .any]=aS (lq sm ⟨S.live+1,S.size,pB S.bx (tE r.1)⟩) .any .any .nil:=a0f mO
    refine sr (qE @f2 @f4 @f8 @f30 @f31 @f32 @e0 (Hp.aV j8) (Hp.dG j8) yi.d32 @q2 @Gy @pH) ?_
    refine⟨⟨i+1,⟨S.live+1,S.size,pB S.bx (tE r.1)⟩,.any,.any,by omega,?_,⟨by simp only;omega,by simp only;omega,v3,hl.1,hl.2⟩,Hp.bT js nV,?_⟩,by omega⟩
    ·rw[sn,wP,hr];simp
    ·simp[Hp.aX,d28,d48,Hp.bt,j2,j4]
  ·obtain rfl:i=n.rows.length:=by omega
   rw[List.take_length]at hS
   refine sr (c9 @f2 @f4 @f8 @f30 @f31 @f32 @aW (Hp.aV c2) @lk) ?_
   have hR:=b2
   clear aW
   refine fS (fun f s'=> ∃(i:Nat) (T:Sy) (o1 o2:Own),i≤n.kids.length∧T=(n.kids.take i).foldl Ab S∧(0≤T.live∧T.live≤4+i*1048576∧0≤T.size∧T.size≤4+i*1048576∧T.bx.1.length≤8∧T.bx.2.length≤8)∧
     s.sub s'∧s' l2=some (.cells [.v (.int .u8 (n.kind.toNat:Int)),x,y])∧s' l4=some (.cells (aS cO .nil .nil .nil))∧s' l8=some (.cells (aS (lq sm T) o1 o2 .nil))∧
     f 2= .ptr l2 0∧f 4= .ptr l4 0∧f 8= .ptr l8 0∧f 51=y∧f 52= .v (.int .i64 n.kids.length)∧f 53= .v (.int .i64 i))
    (fun f _=>match f 53 with| .v (.int _ m)=>n.kids.length - m.toNat| _=>0) ⟨0,S,o1,o2,by omega,by simp,⟨v1,by omega,by omega,by omega,v4,v5⟩,jM,?_⟩ ?_
   ·refine sr (c3 @f2 @f4 @f8) ?_
    exact⟨c2,c4,c8⟩
   clear f2 f4 f8 f30 f31 f32 c2 c4 c8 jM
   rintro f s5 ⟨i,T,o1,o2,hi,hT,⟨v1,v2,v3,v6,v4,v5⟩,jM,c2,c4,c8,f2,f4,f8,f51,f52,f53⟩
   have hC:=cS T o1 o2
   by_cases aW:(i:Int)<n.kids.length
   ·have hw:n.kids[i]? =some n.kids[i]:=List.getElem?_eq_getElem (by omega)
    have ht:n.kids.take (i+1)=n.kids.take i++ [n.kids[i]]:=by rw[List.take_add_one,hw];rfl
    have vm:=b4 _ (List.getElem_mem (l:=n.kids) (n:=i) (by omega))
    generalize n.kids[i]'(by omega)=k at hw ht vm
    obtain⟨a,iB,gQ,mj,w1,w2,w3,rfl⟩:=hN.kids.get hw
    obtain⟨p9,e9,gl⟩:=(hN.sy.mono jM).get i _ iB
    have hK:=eA (o1:=w1) (o2:=w2) (o3:=w3) gQ
    have ek:(AV.agg (aS k w1 w2 w3)).cells=aS k w1 w2 w3:=rfl
    rw[ek]at gl
    have gj:=gl.ld s5 Hp.aH true 37 (by omega) (by rw[hK.len];omega)
    rw[show cK true 37 (aS k w1 w2 w3)= .agg (aS k w1 w2 w3) by rw[cK,if_pos rfl,hK.t37]]at gj
    have fL:=hK.len
    generalize aS k w1 w2 w3=K at*
    obtain⟨a1,a2,a3,a4,a5,a6,a7,a8⟩:=hK
    have lv:=vm.NO;have sz:=vm.NP;have lv':=vm.live;have sz':=vm.size
    have lo8:=vm.lo;have hi8:=vm.hi
    have hT':(n.kids.take (i+1)).foldl Ab S=Ab T k:=by rw[ht,List.foldl_append,hT];rfl
    have pz:putAt (aS cO .nil .nil .nil) 0 K=K:=by rw[putAt];simp[zl,fL]
    refine sr (Gr @f2 @f4 @f8 @f51 @f52 @f53 @aW @e9 @gj @fl @e0 @zl @pz @fL @Hp.set_set) ?_
    refine cP fun Gz GA=> ?_
    have dA:l2≠Gz:=by rintro rfl;rw[c2]at GA;cases GA
    have dB:l4≠Gz:=by rintro rfl;rw[c4]at GA;cases GA
    have dC:l8≠Gz:=by rintro rfl;rw[c8]at GA;cases GA
    have ON:=Ne.symm dC
    have ai7:=Hp.iJ jM GA
    have lS:=hC.len
    have Gx: ∀z:Int,(AV.v (.int .i64 z)).cells= [.v (.int .i64 z)]:=fun _=>rfl
    have pS:putAt (aS (lq sm T) o1 o2 .nil) 34 [.v (.int .i64 (T.live+k.live))]=aS (lq sm {T with live:=T.live+k.live}) o1 o2 .nil:=RR mO
    have yi:=cS {T with live:=T.live+k.live} o1 o2
    have Gy:=yi.len
    have pS2:putAt (aS (lq sm {T with live:=T.live+k.live}) o1 o2 .nil) 35 [.v (.int .i64 (T.size+k.size))]=aS (lq sm ⟨T.live+k.live,T.size+k.size,T.bx⟩) o1 o2 .nil:=RT mO
    have hC3:=cS ⟨T.live+k.live,T.size+k.size,T.bx⟩ o1 o2
    have lS3:=hC3.len
    simp -dsimp -implicitDefEqProofs (disch:=first|omega|assumption|(simp only[rL,Nat.reduceAdd];try omega)) only[go_sem,simprocAttr,-List.reduceReplicate,f2,f4,f8,f51,f52,f53,fl,e0,zl,pz,fL,Hp.set_set,Hp.aX,dC,ON,hC.d34,yi.d35,hC3.d32,Gx,lS,pS,Gy,pS2,lS3,Hp.aV c8,Hp.dG c8,a4,a6,a7,q2,Hp.bt]
    have j8:((s5.set Gz (.cells K)).set l8 (.cells (aS (lq sm ⟨T.live+k.live,T.size+k.size,T.bx⟩) o1 o2 .nil))) l8=some (.cells (aS (lq sm ⟨T.live+k.live,T.size+k.size,T.bx⟩) o1 o2 .nil)):=Hp.bt _ _ _
    have j2:((s5.set Gz (.cells K)).set l8 (.cells (aS (lq sm ⟨T.live+k.live,T.size+k.size,T.bx⟩) o1 o2 .nil))) l2=some (.cells [.v (.int .u8 (n.kind.toNat:Int)),x,y]):=by rw[Hp.aX _ _ d28,Hp.aX _ _ dA];exact c2
    have j4:((s5.set Gz (.cells K)).set l8 (.cells (aS (lq sm ⟨T.live+k.live,T.size+k.size,T.bx⟩) o1 o2 .nil))) l4=some (.cells (aS cO .nil .nil .nil)):=by rw[Hp.aX _ _ d48,Hp.aX _ _ dB];exact c4
    have js:s.sub ((s5.set Gz (.cells K)).set l8 (.cells (aS (lq sm ⟨T.live+k.live,T.size+k.size,T.bx⟩) o1 o2 .nil))):=Hp.bT (Hp.bT jM ai7) nV
    refine bC (X9 _ T.bx.1 T.bx.2 k.lo k.hi o1 o2 w1 w2 (by omega) (by omega) (by omega) (by omega)) ?_
    rintro _ s7 ⟨h7,rfl⟩
    replace j8:=h7 _ _ j8;replace j2:=h7 _ _ j2;replace j4:=h7 _ _ j4;replace js:=Hp.cy js h7
    clear h7
    have hl:=HH T.bx (k.lo,k.hi) 8 v4 v5 lo8 hi8
    have pH:putAt (aS (lq sm ⟨T.live+k.live,T.size+k.size,T.bx⟩) o1 o2 .nil) 32 [.sl (bA (pB T.bx (k.lo,k.hi)).1) .any,.sl (bA (pB T.bx (k.lo,k.hi)).2) .any]=aS (lq sm ⟨T.live+k.live,T.size+k.size,pB T.bx (k.lo,k.hi)⟩) .any .any .nil:=a0f mO
    refine sr (kg @f2 @f4 @f8 @f51 @f52 @f53 @e0 (Hp.aV j8) (Hp.dG j8) @lS3 @pH) ?_
    refine⟨⟨i+1,⟨T.live+k.live,T.size+k.size,pB T.bx (k.lo,k.hi)⟩,.any,.any,by omega,?_,⟨by simp only;omega,by simp only;omega,by simp only;omega,by simp only;omega,hl.1,hl.2⟩,Hp.bT js nV,?_⟩,by omega⟩
    ·rw[hT',Ab]
    ·simp[Hp.aX,d28,d48,Hp.bt,j2,j4]
   ·obtain rfl:i=n.kids.length:=by omega
    rw[List.take_length]at hT
    have lS:=hC.len
    have LC:vN n=T:=by rw[hT,hS];rfl
    rw[LC]
    refine sr (gP @f2 @f4 @f8 @f51 @f52 @f53 @aW (Hp.aV c8) hC.d35 @lS) ?_
    by_cases FQ:1048576<T.size
    ·have cz:cO.sum.length=32:=eY
     have uF:putAt (aS cO .nil .nil .nil) 0 (aS cO .nil .nil .nil)=aS cO .nil .nil .nil:=jV eY eY
     refine sr (qE @f2 @f4 @f8 @f51 @f52 @f53 @FQ @fl (Hp.dG c4) @zl @zt @uF @e0) ?_
     exact⟨_,Hp.aH,fin _ _ jM⟩
    ·have b6:=Bv n.kind 2 (by omega)
     have b7:=Bv n.kind 3 (by omega)
     simp only[Int.cast_ofNat_Int]at b6 b7
     have z9:((0:Nat):Int)=0:=rfl
     by_cases k2:n.kind=2
     ·have i2:((n.kind.toNat:Int)=2)=True:=by rw[k2];simp
      have bI:1≤n.rows.length:=by
       have:=cj;unfold py at this
       simp only[k2,Bool.and_eq_true,decide_eq_true_eq]at this
       simp at this;omega
      obtain⟨r,hr⟩: ∃r,n.rows[0]? =some r:=⟨_,List.getElem?_eq_getElem (by omega)⟩
      have FN:keyOf n=r.1:=by unfold keyOf;rw[if_pos k2];cases hl:n.rows with
       |nil=>rw[hl]at hr;cases hr
       |cons a b=>rw[hl]at hr;simp at hr;simp[hr]
      have LD:r.1.length≤8:=by rw[b1 r (List.mem_of_getElem? hr)];exact bg
      obtain⟨a,iB,o9,rfl⟩:=hN.rows.get hr
      obtain⟨p9,e9,gl⟩:=(hN.sx.mono jM).get 0 _ iB
      obtain⟨p8,e8,gj⟩:=gl.fa s5 Hp.aH 0 false 1 (by omega) (by simp[AV.cells])
      have m2:cK false 1 ((AV.agg [.sl (bA r.1) o9,.v (.bool r.2)]).cells.drop 0)= .sl (bA r.1) o9:=rfl
      rw[m2]at gj
      rw[z9]at e9
      refine sr (oS @f2 @f4 @f8 @f51 @f52 @f53 @FQ (Hp.aV c2) @i2 @e9 @e8 @gj) ?_
      refine bC (MH r.1 o9 _ (by omega)) ?_
      rintro _ s6 ⟨h6,rfl⟩
      replace c8:=h6 _ _ c8;replace c4:=h6 _ _ c4;replace jM:=Hp.cy jM h6
      clear h6
      have pK:putAt (aS (lq sm T) o1 o2 .nil) 36 [.sl (bA r.1) .any]=aS ⟨sm,T.bx.1,T.bx.2,T.live,T.size,r.1⟩ o1 o2 .any:=RU mO
      have yi:=eA (k:=⟨sm,T.bx.1,T.bx.2,T.live,T.size,r.1⟩) (o1:=o1) (o2:=o2) (o3:= .any) mO
      have Gy:=yi.len
      have pz:putAt (aS cO .nil .nil .nil) 0 (aS ⟨sm,T.bx.1,T.bx.2,T.live,T.size,r.1⟩ o1 o2 .any)=aS ⟨sm,T.bx.1,T.bx.2,T.live,T.size,r.1⟩ o1 o2 .any:=jV eY mO
      have Gx:(AV.sl (bA r.1) .any).cells= [.sl (bA r.1) .any]:=rfl
      have d84:=Ne.symm d48
      refine sr (Lw @f2 @f4 @f8 @f51 @f52 @f53 @FQ @i2 @Gx (Hp.aV c8) (Hp.dG c8) @lS @pK @Hp.bt @Hp.aX @d48 @d84 (Hp.dG c4) yi.t37 @Gy @zl @pz @e0) ?_
      refine⟨_,Hp.aH,Hp.bT (Hp.bT jM nV) lQ,?_⟩
      rw[FN]
      exact⟨_,_,_,rfl⟩
     ·have i2: ¬(n.kind.toNat:Int)=2:=fun h=>k2 (by have:=b6;simp only[h,decide_true]at this;simpa using this.symm)
      by_cases k3:n.kind=3
      ·have i3:((n.kind.toNat:Int)=3)=True:=by rw[k3];simp
       have bI:1≤n.kids.length:=by
        have:=cj;unfold py at this
        simp only[k3,Bool.and_eq_true,decide_eq_true_eq]at this
        simp at this;omega
       obtain⟨r,hr⟩: ∃r,n.kids[0]? =some r:=⟨_,List.getElem?_eq_getElem (by omega)⟩
       have FN:keyOf n=r.key:=by unfold keyOf;rw[if_neg k2,if_pos k3];cases hl:n.kids with
        |nil=>rw[hl]at hr;cases hr
        |cons a b=>rw[hl]at hr;simp at hr;simp[hr]
       have LD:=(b4 r (List.mem_of_getElem? hr)).key
       obtain⟨a,iB,gQ,mj,w1,w2,w3,rfl⟩:=hN.kids.get hr
       obtain⟨p9,e9,gl⟩:=(hN.sy.mono jM).get 0 _ iB
       have hK:=eA (o1:=w1) (o2:=w2) (o3:=w3) gQ
       have ek:(AV.agg (aS r w1 w2 w3)).cells=aS r w1 w2 w3:=rfl
       rw[ek]at gl
       obtain⟨p8,e8,gj⟩:=gl.fa s5 Hp.aH 36 false 1 (by omega) (by rw[hK.len];omega)
       have m2:cK false 1 ((aS r w1 w2 w3).drop 36)= .sl (bA r.key) w3:=by rw[hK.d36];rfl
       rw[m2]at gj
       rw[z9]at e9
       refine sr (qE @f2 @f4 @f8 @f51 @f52 @f53 @FQ (Hp.aV c2) @i2 @i3 @e9 @e8 @gj) ?_
       refine bC (MH r.key w3 _ (by omega)) ?_
       rintro _ s6 ⟨h6,rfl⟩
       replace c8:=h6 _ _ c8;replace c4:=h6 _ _ c4;replace jM:=Hp.cy jM h6
       clear h6
       have pK:putAt (aS (lq sm T) o1 o2 .nil) 36 [.sl (bA r.key) .any]=aS ⟨sm,T.bx.1,T.bx.2,T.live,T.size,r.key⟩ o1 o2 .any:=RU mO
       have yi:=eA (k:=⟨sm,T.bx.1,T.bx.2,T.live,T.size,r.key⟩) (o1:=o1) (o2:=o2) (o3:= .any) mO
       have Gy:=yi.len
       have pz:putAt (aS cO .nil .nil .nil) 0 (aS ⟨sm,T.bx.1,T.bx.2,T.live,T.size,r.key⟩ o1 o2 .any)=aS ⟨sm,T.bx.1,T.bx.2,T.live,T.size,r.key⟩ o1 o2 .any:=jV eY mO
       have Gx:(AV.sl (bA r.key) .any).cells= [.sl (bA r.key) .any]:=rfl
       have d84:=Ne.symm d48
       refine sr (c24 @f2 @f4 @f8 @f51 @f52 @f53 @FQ @i2 @i3 @Gx (Hp.aV c8) (Hp.dG c8) @lS @pK @Hp.bt @Hp.aX @d48 @d84 (Hp.dG c4) yi.t37 @Gy @zl @pz @e0) ?_
       refine⟨_,Hp.aH,Hp.bT (Hp.bT jM nV) lQ,?_⟩
       rw[FN]
       exact⟨_,_,_,rfl⟩
      ·have i3: ¬(n.kind.toNat:Int)=3:=fun h=>k3 (by have:=b7;simp only[h,decide_true]at this;simpa using this.symm)
       have pz:putAt (aS cO .nil .nil .nil) 0 (aS (lq sm T) o1 o2 .nil)=aS (lq sm T) o1 o2 .nil:=jV eY mO
       refine sr (Gs @f2 @f4 @f8 @f51 @f52 @f53 @FQ (Hp.aV c2) @i2 @i3 (Hp.aV c8) (Hp.dG c4) @lS hC.t37 @zl @e0 @pz) ?_
       refine⟨_,Hp.aH,Hp.bT jM lQ,?_⟩
       rw[show keyOf n= [] by unfold keyOf;rw[if_neg k2,if_neg k3]]
       exact⟨_,_,_,rfl⟩
theorem Yt {A:List AV}{a b c d e:AV} (h:A.length=32):(∀x,putAt (A++ [a,b,c,d,e]) 32 [x]=A++ [x,b,c,d,e])∧ ∀x,putAt (A++ [a,b,c,d,e]) 33 [x]=A++ [a,x,c,d,e]:=by
 have t: ∀n (l:List AV),(A++l).take (32+n)=A++l.take n:=fun n l=>by rw[←h,List.take_length_add_append]
 have g: ∀n (l:List AV),(A++l).drop (32+n)=l.drop n:=fun n l=>by rw[←h,List.drop_length_add_append]
 have t0:=t 0;have t1:=t 1
 have g1:=g 1;have g2:=g 2
 simp only[Nat.add_zero,Nat.reduceAdd]at t0 t1 g1 g2
 refine⟨fun x=> ?_,fun x=> ?_⟩<;>simp only[putAt,List.length_cons,List.length_nil,Nat.zero_add,Nat.reduceAdd,t0,t1,g1,g2]<;>simp
theorem abq {k:Kd}{o1 o2 o3 p:Own}{x:List Int} (h:k.sum.length=32):putAt (aS k o1 o2 o3) 32 [.sl (bA x) p]=aS {k with lo:=x} p o2 o3:=(Yt (by simp[h])).1 _
theorem abr {k:Kd}{o1 o2 o3 p:Own}{x:List Int} (h:k.sum.length=32):putAt (aS k o1 o2 o3) 33 [.sl (bA x) p]=aS {k with hi:=x} o1 p o3:=(Yt (by simp[h])).2 _
theorem RS.put {s0 s:Hp}{l l2:Nat}{r:Rd}{o1:Ob} (ob:Ob) (h:RS (s0.set l2 o1) l r s) (bI:l2≠l):RS (s0.set l2 ob) l r (s.set l2 ob):=by
 have:=h.other (ob:=ob) bI
 rwa[Hp.set_set]at this
theorem a8F (s0 s:Hp) (l:Nat) (d:Nat) (bg:d≤8) (r:Rd) (h0:s0 l=none) (h:RS s0 l r s):
  AC Tryz.prog 149 [.ptr l 0,.v (.int .i64 (d:Int))] s fun x s'=>RS s0 l (vl d r).2 s'∧(vl d r).1.sum.length=32∧(vl d r).1.Sh∧ ∃o1 o2 o3,x= .agg (aS (vl d r).1 o1 o2 o3):=by
 have zc:=eA (o1:= .nil) (o2:= .nil) (o3:= .nil) eY
 have zl:=zc.len;have zt:=zc.t37
 refine cR hm a9P (by simp) ?_
 have e0: ∀cs,(AV.agg cs).cells=cs:=fun _=>rfl
 have ez: ∀z:Int,(AV.v (.int .i64 z)).cells= [.v (.int .i64 z)]:=fun _=>rfl
 have er: ∀(z:List Int) (p:Own),(AV.sl (bA z) p).cells= [.sl (bA z) p]:=fun _ _=>rfl
 refine sr @fl ?_
 refine cP fun l4 n4=> ?_
 obtain⟨d4,e4,h⟩:=h.new (ob:= .cells (aS cO .nil .nil .nil)) n4
 have b4:s0.sub (s0.set l4 (.cells (aS cO .nil .nil .nil))):=Hp.bT Hp.aH e4
 have q4:(s0.set l4 (.cells (aS cO .nil .nil .nil))) l=none:=by rw[Hp.aX _ _ (Ne.symm d4)];exact h0
 have g4:(s0.set l4 (.cells (aS cO .nil .nil .nil))) l4=some (.cells (aS cO .nil .nil .nil)):=Hp.bt _ _ _
 obtain⟨sA,hA⟩: ∃sA:Hp,sA=s0.set l4 (.cells (aS cO .nil .nil .nil)):=⟨_,rfl⟩
 rw[←hA]at h b4 q4 g4
 refine dD ?_
 refine bC (a4j _ _ l r h) ?_
 rintro x s1 ⟨h1,rfl⟩
 unfold vl
 have mO:=WA r
 generalize CW r=k at*
 obtain⟨sm,r1⟩:=k
 simp only at h1 mO⊢
 have kC:(dg sm).cells=sm.map bN:=rfl
 have LF:(sm.map bN).length=32:=by simp[mO]
 have pz:putAt (aS cO .nil .nil .nil) 0 (sm.map bN)=aS ⟨sm,[],[],0,0,[]⟩ .nil .nil .nil:=a0E eY mO
 have pA: ∀(k:Kd) (o1 o2 o3:Own),k.sum.length=32→putAt (aS cO .nil .nil .nil) 0 (aS k o1 o2 o3)=aS k o1 o2 o3:=fun k o1 o2 o3 hk=>jV eY hk
 have cl: ∀(lo hi:List Int) (a b:Int) (key:List Int) (o1 o2 o3:Own),U7 ⟨sm,lo,hi,a,b,key⟩ o1 o2 o3 (aS ⟨sm,lo,hi,a,b,key⟩ o1 o2 o3):=fun lo hi a b key o1 o2 o3=>eA mO
 have c1:=(cl [] [] 0 0 [] .nil .nil .nil).len
 have p1:=pA ⟨sm,[],[],0,0,[]⟩ .nil .nil .nil mO
 refine sr (c8 @e0 @kC @LF @fl @pz @zl @c1 @p1) ?_
 refine cP fun l5 n5=> ?_
 obtain⟨d5,e5,h2⟩:=h1.new (ob:= .cells (aS ⟨sm,[],[],0,0,[]⟩ .nil .nil .nil)) n5
 have d45:l4≠l5:=by rintro rfl;rw[g4]at e5;cases e5
 have q5: ∀ob,(sA.set l5 ob) l=none:=fun ob=>by rw[Hp.aX _ _ (Ne.symm d5)];exact q4
 have gg: ∀ {ob r s'},RS (sA.set l5 ob) l r s'→s' l5=some ob∧s' l4=some (.cells (aS cO .nil .nil .nil)):=fun h=>⟨h.get d5 (Hp.bt _ _ _),h.get d4 (by rw[Hp.aX _ _ d45];exact g4)⟩
 refine sr (c9 @e0 @kC @LF @fl @pz @zl @c1 @p1 @Hp.set_set) ?_
 refine bC (WD _ _ l 1048576 (by omega) _ h2) ?_
 rintro x s2 ⟨h3,rfl⟩
 have hc:=XK 1048576 r1
 generalize yS 1048576 r1=k at*
 obtain⟨c,r2⟩:=k
 simp only at h3 hc⊢
 have g5:=(gg h3).1
 have c2:=(cl [] [] c 0 [] .nil .nil .nil).len
 have p2:putAt (aS ⟨sm,[],[],0,0,[]⟩ .nil .nil .nil) 34 [.v (.int .i64 (c:Int))]=aS ⟨sm,[],[],c,0,[]⟩ .nil .nil .nil:=RR mO
 replace h3:=h3.put (.cells (aS ⟨sm,[],[],c,0,[]⟩ .nil .nil .nil)) d5
 refine sr (c4 @ez (Hp.dG g5) @c1 @p2) ?_
 refine bC (WD _ _ l 1048576 (by omega) _ h3) ?_
 rintro x s3 ⟨h4,rfl⟩
 have wY:=XK 1048576 r2
 generalize yS 1048576 r2=k at*
 obtain⟨z,r3⟩:=k
 simp only at h4 wY⊢
 replace g5:=(gg h4).1
 have c3:=(cl [] [] c z [] .nil .nil .nil).len
 have p3:putAt (aS ⟨sm,[],[],c,0,[]⟩ .nil .nil .nil) 35 [.v (.int .i64 (z:Int))]=aS ⟨sm,[],[],c,z,[]⟩ .nil .nil .nil:=RT mO
 replace h4:=h4.put (.cells (aS ⟨sm,[],[],c,z,[]⟩ .nil .nil .nil)) d5
 refine sr (c4 @ez (Hp.dG g5) @c2 @p3) ?_
 refine bC (MT _ _ l d (by omega) _ (q5 _) h4) ?_
 rintro x s4 ⟨h5,o1,rfl⟩
 have rH:=R9 d r3
 generalize ve d r3=k at*
 obtain⟨lo,r4⟩:=k
 simp only at h5 rH⊢
 replace g5:=(gg h5).1
 have c4:=(cl lo [] c z [] o1 .nil .nil).len
 have p4:putAt (aS ⟨sm,[],[],c,z,[]⟩ .nil .nil .nil) 32 [.sl (bA lo) o1]=aS ⟨sm,lo,[],c,z,[]⟩ o1 .nil .nil:=abq mO
 replace h5:=h5.put (.cells (aS ⟨sm,lo,[],c,z,[]⟩ o1 .nil .nil)) d5
 simp -dsimp -implicitDefEqProofs (disch:=first|omega|assumption|(simp only[rL,Nat.reduceAdd];try omega)) only[go_sem,simprocAttr,-List.reduceReplicate,er,Hp.dG g5,c3,p4]
 refine bC (MT _ _ l d (by omega) _ (q5 _) h5) ?_
 rintro x s5 ⟨h6,o2,rfl⟩
 have mS:=R9 d r4
 generalize ve d r4=k at*
 obtain⟨hi,r5⟩:=k
 simp only at h6 mS⊢
 replace g5:=(gg h6).1
 have c5:=(cl lo hi c z [] o1 o2 .nil).len
 have p5:putAt (aS ⟨sm,lo,[],c,z,[]⟩ o1 .nil .nil) 33 [.sl (bA hi) o2]=aS ⟨sm,lo,hi,c,z,[]⟩ o1 o2 .nil:=abr mO
 replace h6:=h6.put (.cells (aS ⟨sm,lo,hi,c,z,[]⟩ o1 o2 .nil)) d5
 simp -dsimp -implicitDefEqProofs (disch:=first|omega|assumption|(simp only[rL,Nat.reduceAdd];try omega)) only[go_sem,simprocAttr,-List.reduceReplicate,er,Hp.dG g5,c4,p5]
 refine bC (MT _ _ l d (by omega) _ (q5 _) h6) ?_
 rintro x s6 ⟨h7,o3,rfl⟩
 have J4:=R9 d r5
 generalize ve d r5=k at*
 obtain⟨key,r6⟩:=k
 simp only at h7 J4⊢
 replace g5:=(gg h7).1
 have hK:=cl lo hi c z key o1 o2 o3
 have c6:=hK.len
 have p6:putAt (aS ⟨sm,lo,hi,c,z,[]⟩ o1 o2 .nil) 36 [.sl (bA key) o3]=aS ⟨sm,lo,hi,c,z,key⟩ o1 o2 o3:=RU mO
 replace h7:=h7.put (.cells (aS ⟨sm,lo,hi,c,z,key⟩ o1 o2 o3)) d5
 have OJ:=(gg h7).2
 have g5':=(gg h7).1
 have d54:=Ne.symm d45
 have p7:=pA ⟨sm,lo,hi,c,z,key⟩ o1 o2 o3 mO
 have g6:s6 l4=some (.cells (aS cO .nil .nil .nil)):=by rw[Hp.aX _ _ d45]at OJ;exact OJ
 refine sr (qF @er (Hp.dG g5) @c5 @p6 @Hp.bt @Hp.aX @d45 @d54 (Hp.dG g6) hK.t37 @zl @c6 @p7 @e0) ?_
 refine⟨_,Hp.aH,?_,mO,⟨by simp only;omega,by simp only;omega,by simp only;omega⟩,o1,o2,o3,rfl⟩
 refine(h7.other (ob:= .cells (aS ⟨sm,lo,hi,c,z,key⟩ o1 o2 o3)) d4).base ?_
 intro x q hx
 have SU:x≠l4:=by rintro rfl;rw[e4]at hx;cases hx
 have ai8:x≠l5:=by
  rintro rfl
  rw[hA,Hp.aX _ _ SU]at e5
  rw[e5]at hx;cases hx
 rw[Hp.aX _ _ SU,Hp.aX _ _ ai8,hA,Hp.aX _ _ SU];exact hx
theorem I5 {s:Hp}{g n k:Nat}{xs:List AV} (h:xs.length=n*k):hU (s.set g (.cells xs)) k (.mb g n n k)=some (n,xs):=by
 simp[hU,Hp.aV (Hp.bt _ _ _),←h]
theorem MO.rs {s0 s:Hp}{l k:Nat}{r:Rd}{ow:Own}{us:List AV}{a:AV} (h:MO (s0.set l (RC r ow)) s k us a):RS s0 l r s:=⟨ow,h.1⟩
theorem MO.KC {s0 s s':Hp}{l k:Nat}{r r':Rd}{ow:Own}{us:List AV}{a:AV} (h:MO (s0.set l (RC r ow)) s k us a) (h0:s0 l=none) (h':RS (s.del l) l r' s'): ∃vh,MO (s0.set l (RC r' vh)) s' k us a:=by
 obtain⟨vh,h2⟩:=h'
 obtain⟨h1,h3⟩:=h
 refine⟨vh,Hp.cy (Hp.A3 (Zl h1 h0)) h2,?_⟩
 rcases h3 with h3|⟨b,n,cap,cs,q1,q2,q3,q4⟩
 ·exact .inl h3
 ·have bI:b≠l:=by rintro rfl;rw[Hp.bt]at q2;cases q2
  rw[Hp.aX _ _ bI]at q2
  exact .inr ⟨b,n,cap,cs,q1,by rw[Hp.aX _ _ bI];exact q2,h2 _ _ (by rw[Hp.aX _ _ bI,Hp.pY _ bI];exact q3),q4⟩
def uv (s s':Hp) (n:gM) (x y:AV):Prop:= ∃sM av kv,MO s sM 2 (flat av) x∧MO sM s' 37 (flat kv) y∧cn mA n.rows av∧cn eK n.kids kv∧n.rows.length≤100000∧n.kids.length≤100000
theorem uv.sub {s s':Hp}{n:gM}{x y:AV} (h:uv s s' n x y):s.sub s':=by
 obtain⟨sM,av,kv,h1,h2,_⟩:=h;exact Hp.cy h1.1 h2.1
theorem uv.L {s s':Hp}{n:gM}{x y:AV} (h:uv s s' n x y): ∃av kv,nR s' n x y av kv:=by
 obtain⟨sM,av,kv,h1,h2,h3,h4,h5,h6⟩:=h
 exact⟨av,kv,h3,h4,(Sl.mo h1 (by omega) rfl (h3.cells fun _ _=>mA.cells)).mono h2.1,Sl.mo h2 (by omega) rfl (h4.cells fun _ _=>eK.cells),h5,h6⟩
theorem uv.base {s0 s s':Hp}{n:gM}{x y:AV} (h:uv s s' n x y) (hs:s0.sub s):uv s0 s' n x y:=by
 obtain⟨sM,av,kv,h1,h2,h3⟩:=h;exact⟨sM,av,kv,h1.base hs,h2,h3⟩
theorem uv.mono {s s' s2:Hp}{n:gM}{x y:AV} (h:uv s s' n x y) (hs:s'.sub s2):uv s s2 n x y:=by
 obtain⟨sM,av,kv,h1,h2,h3⟩:=h;exact⟨sM,av,kv,h1,h2.mono hs,h3⟩
theorem uv.set {s s':Hp}{l2:Nat}{o ob:Ob}{n:gM}{x y:AV} (h:uv s s' n x y) (hl:s l2=some o):uv (s.set l2 ob) (s'.set l2 ob) n x y:=by
 obtain⟨sM,av,kv,h1,h2,h3⟩:=h;exact⟨sM.set l2 ob,av,kv,BD h1 hl,BD h2 (h1.1 _ _ hl),h3⟩
theorem Xb {α:Type}{one:Rd→α×Rd}{n i:Nat}{r:Rd}{acc:List α} (h:i<n):qu one (n - i) r acc=qu one (n -(i+1)) (one r).2 (acc++ [(one r).1]):=by
 rw[show n - i=(n -(i+1))+1 by omega];rfl
abbrev St:AV:= .agg [.v (.int .u8 0),.sl [] .nil,.sl [] .nil]
theorem a78 (bs:List UInt8) (o:Own) (d:Nat) (bq:1≤d) (bg:d≤8) (s:Hp) (hb:bs.length≤1000000000000):
  AC Tryz.prog 112 [.sl (bs.map bN) o,.v (.int .i64 (d:Int))] s fun r s'=>s.sub s'∧match Iy d bs with
   |none=>r= .dr [St,.v (.int .i64 21)]
   |some n=> ∃x y,r= .dr [xS n x y,.v (.int .i64 0)]∧uv s s' n x y:=by
 refine Kn fun hn=> ?_
 have ho:o= .nil→bs= []:=fun e=>by subst e;simpa using hn (bs.map bN) (by simp)
 refine cR hm a9t (by simp) ?_
 have e0: ∀cs,(AV.agg cs).cells=cs:=fun _=>rfl
 have p3: ∀a b c x y z:AV,putAt [a,b,c] 0 [x,y,z]= [x,y,z]:=fun _ _ _ _ _ _=>rfl
 have em: ∀a b c,cK true 3 [a,b,c]= .agg [a,b,c]:=fun _ _ _=>rfl
 have m1: ∀a b c:AV,cK false 1 ([a,b,c].drop 1)=b:=fun _ _ _=>rfl
 have m2: ∀a b c:AV,cK false 1 ([a,b,c].drop 2)=c:=fun _ _ _=>rfl
 have u0: ∀a b c x:AV,putAt [a,b,c] 0 [x]= [x,b,c]:=fun _ _ _ _=>rfl
 have l3: ∀a b c:AV,[a,b,c].length=3:=fun _ _ _=>rfl
 have v0: ∀a b x:AV,putAt [a,b] 0 [x]= [x,b]:=fun _ _ _=>rfl
 have v1: ∀a b x:AV,putAt [a,b] 1 [x]= [a,x]:=fun _ _ _=>rfl
 have l2: ∀a b:AV,[a,b].length=2:=fun _ _=>rfl
 have eb: ∀b:Bool,(AV.v (.bool b)).cells= [.v (.bool b)]:=fun _=>rfl
 have er: ∀(z:List Int) (p:Own),(AV.sl (bA z) p).cells= [.sl (bA z) p]:=fun _ _=>rfl
 have u1: ∀a b c x:AV,putAt [a,b,c] 1 [x]= [a,x,c]:=fun _ _ _ _=>rfl
 have u2: ∀a b c x:AV,putAt [a,b,c] 2 [x]= [a,b,x]:=fun _ _ _ _=>rfl
 refine dD ?_
 refine cP fun l4 n4=> ?_
 have b4:s.sub (s.set l4 (.cells [.v (.int .u8 0),.sl [] .nil,.sl [] .nil])):=Hp.bT Hp.aH n4
 have g4:(s.set l4 (.cells [.v (.int .u8 0),.sl [] .nil,.sl [] .nil])) l4=some (.cells [.v (.int .u8 0),.sl [] .nil,.sl [] .nil]):=Hp.bt _ _ _
 obtain⟨B,hB⟩: ∃B:Hp,B=s.set l4 (.cells [.v (.int .u8 0),.sl [] .nil,.sl [] .nil]):=⟨_,rfl⟩
 rw[←hB]at b4 g4
 have fin: ∀(s':Hp) (ob:Ob),s.sub s'→s.sub (s'.set l4 ob):=fun s' ob h=>Hp.bT h n4
 refine dD ?_
 rw[←hB]
 refine bC (a8r bs o B ho (by omega)) ?_
 rintro _ s1 ⟨l6,n6,rfl,h1⟩
 have d46:l4≠l6:=by rintro rfl;rw[g4]at n6;cases n6
 refine dD ?_
 refine bC (JT _ _ l6 _ h1) ?_
 rintro x s2 ⟨h2,rfl⟩
 have hN: ∀k:UInt8×Rd,k=jU ⟨bs,0⟩→FI d bs=(⟨k.1,(qu (wV d) (jU k.2).1.toNat (jU k.2).2 []).1,(qu (vl d) (jU (qu (wV d) (jU k.2).1.toNat (jU k.2).2 []).2).1.toNat (jU (qu (wV d) (jU k.2).1.toNat (jU k.2).2 []).2).2 []).1⟩,
   FP (qu (vl d) (jU (qu (wV d) (jU k.2).1.toNat (jU k.2).2 []).2).1.toNat (jU (qu (wV d) (jU k.2).1.toNat (jU k.2).2 []).2).2 []).2):=by rintro k rfl;rfl
 have hN1:=hN _ rfl
 clear hN
 unfold Iy
 rw[hN1]
 clear hN1
 generalize jU ⟨bs,0⟩=k at*
 obtain⟨kd,r1⟩:=k
 simp only at h2⊢
 refine sr (c2 @p3 @e0) ?_
 refine cP fun l7 n7=> ?_
 obtain⟨d76,e7,h3⟩:=h2.new (ob:= .cells [.v (.int .u8 kd.toNat),.sl [] .nil,.sl [] .nil]) n7
 have d47:l4≠l7:=by rintro rfl;rw[g4]at e7;cases e7
 have q7: ∀ob,(B.set l7 ob) l6=none:=fun ob=>by rw[Hp.aX _ _ (Ne.symm d76)];exact n6
 refine sr (c5 @p3 @e0 @u0 @l3 @Hp.set_set) ?_
 refine bC (JT _ _ l6 _ h3) ?_
 rintro x s3 ⟨h4,rfl⟩
 generalize jU r1=k at*
 obtain⟨nb,r2⟩:=k
 simp only at h4⊢
 have hnb:=nb.toNat_lt
 have wn:IntKind.i64.wrap (nb.toNat:Int)=nb.toNat:=wrap_i64 (by omega) (by omega)
 refine sr @wn ?_
 generalize nb.toNat=N at*
 have LG: ∀ow c r s' k us a,MO ((B.set l7 (.cells c)).set l6 (RC r ow)) s' k us a→s' l7=some (.cells c)∧s' l4=some (.cells [.v (.int .u8 0),.sl [] .nil,.sl [] .nil]):=fun ow c r s' k us a h=>⟨h.1 _ _ (by rw[Hp.aX _ _ d76,Hp.bt]),h.1 _ _ (by rw[Hp.aX _ _ d46,Hp.aX _ _ d47];exact g4)⟩
 refine fS (fun f s'=> ∃(i:Nat) (r':Rd) (acc:List (List Int×Bool)) (av:List AV) (a:AV) (ow:Own),i≤N∧qu (wV d) (N - i) r' acc=qu (wV d) N r2 []∧acc.length=i∧cn mA acc av∧MO ((B.set l7 (.cells [.v (.int .u8 kd.toNat),a,.sl [] .nil])).set l6 (RC r' ow)) s' 2 (flat av) a∧
   f 0= .sl (bs.map bN) o∧f 1= .v (.int .i64 d)∧f 4= .ptr l4 0∧f 6= .ptr l6 0∧f 7= .ptr l7 0∧f 18= .v (.int .i64 N)∧f 19= .v (.int .i64 i))
  (fun f _=>match f 19 with| .v (.int _ n)=>(N - n).toNat| _=>0) ?_ ?_
 ·obtain⟨ow,h4⟩:=h4
  refine⟨0,r2,[],[],.sl [] .nil,ow,by omega,rfl,rfl,trivial,MO.nil h4,?_⟩
  exact nE
 rintro f s5 ⟨i,r',acc,av,a,ow,hi,hr,lj,hA,hM,f0,f1,f4,f6,f7,f18,f19⟩
 by_cases aW:(i:Int)<N
 ·refine sr (c8 @f0 @f1 @f4 @f6 @f7 @f18 @f19 @aW) ?_
  refine bC (a4U _ _ l6 r' (MO.rs hM).full) ?_
  rintro x s6 ⟨h6,rfl⟩
  rw[Xb (by omega)]at hr
  unfold wV at hr
  obtain⟨ow6,iC⟩:=MO.KC hM (q7 _) h6
  generalize CG r'=k at*
  obtain⟨tr,r3⟩:=k
  simp only at iC hr⊢
  have c7:=(LG _ _ _ _ _ _ _ iC).1
  refine sr (gP @f0 @f1 @f4 @f6 @f7 @f18 @f19 @aW (Hp.aV c7) @m1) ?_
  refine bC (MT _ _ l6 d (by omega) r3 (Hp.yK _ _) (MO.rs iC).full) ?_
  rintro x s7 ⟨h7,OO,rfl⟩
  obtain⟨OP,yj⟩:=MO.KC iC (q7 _) h7
  generalize ve d r3=k at*
  obtain⟨Ja,r4⟩:=k
  simp only at yj hr⊢
  have c8:=(LG _ _ _ _ _ _ _ yj).1
  refine sr (J3 @f0 @f1 @f4 @f6 @f7 @f18 @f19 @aW (Hp.aV c8) @m1 @e0 @v0 @v1 @l2 @eb @er) ?_
  refine DV (by simp[dS,AV.cells]) (by simp) fun g hg=> ?_
  have AM:=MO.mono yj (Hp.bT (o:= .cells (flat [AV.agg [.sl (bA Ja) OO,.v (.bool tr)]])) Hp.aH hg)
  have Ds:cn mA (acc++ [(Ja,tr)]) (av++ [AV.agg [.sl (bA Ja) OO,.v (.bool tr)]]):=hA.snoc ⟨_,rfl⟩
  have ke:(flat av).length=acc.length*2:=by rw[ny (hA.cells fun _ _=>mA.cells),hA.len]
  simp -dsimp -implicitDefEqProofs (disch:=first|omega|assumption|(simp only[rL,Nat.reduceAdd];try omega)) only[go_sem,simprocAttr,-List.reduceReplicate,f0,f1,f4,f6,f7,f18,f19]
  refine lX AM (by omega) (I5 rfl) rfl (by rw[ke];simp[flat,AV.cells];omega) (by rw[ke];simp[flat,AV.cells];omega) fun a' s9 qW=> ?_
  have ef:flat av++flat [AV.agg [.sl (bA Ja) OO,.v (.bool tr)]]=flat (av++ [AV.agg [.sl (bA Ja) OO,.v (.bool tr)]]):=by simp[flat]
  rw[ef]at qW
  have c9:=(LG _ _ _ _ _ _ _ qW).1
  have ea:a'.cells= [a']:=DZ qW
  refine sr (kg @f0 @f1 @f4 @f6 @f7 @f18 @f19 (Hp.dG c9) @ea @u1 @l3) ?_
  refine⟨⟨i+1,r4,acc++ [(Ja,tr)],_,a',OP,by omega,hr,by simp[lj],Ds,?_,by simp⟩,by omega⟩
  have:=BD (l2:=l7) (ob:= .cells [.v (.int .u8 kd.toNat),a',.sl [] .nil]) qW (by rw[Hp.aX _ _ d76,Hp.bt])
  rw[Hp.mZ _ (Ne.symm d76),Hp.set_set]at this
  exact this
 ·obtain rfl:i=N:=by omega
  rw[Nat.sub_self]at hr
  obtain⟨zv,qB⟩:acc=(qu (wV d) i r2 []).1∧r'=(qu (wV d) i r2 []).2:=by rw[←hr];exact⟨rfl,rfl⟩
  rw[←zv,←qB]
  refine sr (c8 @f0 @f1 @f4 @f6 @f7 @f18 @f19 @aW) ?_
  refine bC (JT _ _ l6 r' (MO.rs hM).full) ?_
  rintro x s6 ⟨h6,rfl⟩
  obtain⟨ow6,iC⟩:=MO.KC hM (q7 _) h6
  clear hM
  generalize jU r'=k at*
  obtain⟨nb,r3⟩:=k
  simp only at iC⊢
  have hnb:=nb.toNat_lt
  have wn:IntKind.i64.wrap (nb.toNat:Int)=nb.toNat:=wrap_i64 (by omega) (by omega)
  refine sr (c6 @f0 @f1 @f4 @f6 @f7 @wn) ?_
  have c7:=(LG _ _ _ _ _ _ _ iC).1
  have c4:=(LG _ _ _ _ _ _ _ iC).2
  have q7': ∀ob,((s6.del l6).set l7 ob) l6=none:=fun ob=>by rw[Hp.aX _ _ (Ne.symm d76),Hp.yK]
  have LH: ∀ow c r s' k us a,MO (((s6.del l6).set l7 (.cells c)).set l6 (RC r ow)) s' k us a→s' l7=some (.cells c)∧s' l4=some (.cells [.v (.int .u8 0),.sl [] .nil,.sl [] .nil]):=fun ow c r s' k us a h=>⟨h.1 _ _ (by rw[Hp.aX _ _ d76,Hp.bt]),h.1 _ _ (by rw[Hp.aX _ _ d46,Hp.aX _ _ d47,Hp.pY _ d46];exact c4)⟩
  obtain⟨owX,hX⟩: ∃ow,(((s6.del l6).set l7 (.cells [.v (.int .u8 kd.toNat),a,.sl [] .nil])).set l6 (RC r3 ow)).sub s6:=by
   obtain⟨ow,h⟩:=(MO.rs iC).full
   refine⟨ow,fun x o hx=> ?_⟩
   by_cases e:x=l7
   ·subst e
    rw[Hp.aX _ _ d76,Hp.bt]at hx
    rw[←Option.some.inj hx];exact c7
   ·by_cases e6:x=l6
    ·subst e6;rw[Hp.bt]at hx;exact h _ _ (by rw[Hp.bt];exact hx)
    ·rw[Hp.aX _ _ e6,Hp.aX _ _ e]at hx
     exact h _ _ (by rw[Hp.aX _ _ e6];exact hx)
  generalize nb.toNat=M at*
  refine fS (fun f s'=> ∃(i:Nat) (r':Rd) (xk:List Kd) (kv:List AV) (y:AV) (ow:Own),i≤M∧qu (vl d) (M - i) r' xk=qu (vl d) M r3 []∧xk.length=i∧cn eK xk kv∧MO (((s6.del l6).set l7 (.cells [.v (.int .u8 kd.toNat),a,y])).set l6 (RC r' ow)) s' 37 (flat kv) y∧
    f 0= .sl (bs.map bN) o∧f 1= .v (.int .i64 d)∧f 4= .ptr l4 0∧f 6= .ptr l6 0∧f 7= .ptr l7 0∧f 36= .v (.int .i64 M)∧f 37= .v (.int .i64 i))
   (fun f _=>match f 37 with| .v (.int _ n)=>(M - n).toNat| _=>0) ?_ ?_
  ·refine⟨0,r3,[],[],.sl [] .nil,owX,by omega,rfl,rfl,trivial,MO.nil hX,?_⟩
   exact sz (c5 @f0 @f1 @f4 @f6 @f7)
  clear f0 f1 f4 f6 f7 f18 f19
  rintro f s5 ⟨j,r',xk,kv,y,ow,hj,hr,vX,nF,hM,f0,f1,f4,f6,f7,f36,f37⟩
  by_cases aW:(j:Int)<M
  ·have c8:=(LH _ _ _ _ _ _ _ hM).1
   refine sr (gP @f0 @f1 @f4 @f6 @f7 @f36 @f37 @aW (Hp.aV c8) @m2) ?_
   refine bC (a8F _ _ l6 d bg r' (Hp.yK _ _) (MO.rs hM).full) ?_
   rintro x s7 ⟨h7,Ud,ksh,o1,o2,o3,rfl⟩
   rw[Xb (by omega)]at hr
   obtain⟨OP,yj⟩:=MO.KC hM (q7' _) h7
   have Ue:=(eA (o1:=o1) (o2:=o2) (o3:=o3) Ud).len
   generalize vl d r'=k at*
   obtain⟨kk,r4⟩:=k
   simp only at yj hr Ud ksh Ue⊢
   have c9:=(LH _ _ _ _ _ _ _ yj).1
   refine sr (kg @f0 @f1 @f4 @f6 @f7 @f36 @f37 @aW (Hp.aV c9) @m2 @e0) ?_
   refine DV (by simp[dS,AV.cells,Ue]) (by simp) fun g hg=> ?_
   have AM:=MO.mono yj (Hp.bT (o:= .cells (flat [AV.agg (aS kk o1 o2 o3)])) Hp.aH hg)
   have Ds:cn eK (xk++ [kk]) (kv++ [AV.agg (aS kk o1 o2 o3)]):=nF.snoc ⟨Ud,ksh,_,_,_,rfl⟩
   have ke:(flat kv).length=xk.length*37:=by rw[ny (nF.cells fun _ _=>eK.cells),nF.len]
   have th:(flat [AV.agg (aS kk o1 o2 o3)]).length=1*37:=by simp[flat,AV.cells,Ue]
   simp -dsimp -implicitDefEqProofs (disch:=first|omega|assumption|(simp only[rL,Nat.reduceAdd];try omega)) only[go_sem,simprocAttr,-List.reduceReplicate,f0,f1,f4,f6,f7,f36,f37]
   refine lX AM (by omega) (I5 th) th (by rw[ke,th];omega) (by rw[ke,th];omega) fun a' s9 qW=> ?_
   have ef:flat kv++flat [AV.agg (aS kk o1 o2 o3)]=flat (kv++ [AV.agg (aS kk o1 o2 o3)]):=by simp[flat]
   rw[ef]at qW
   have c9:=(LH _ _ _ _ _ _ _ qW).1
   have ea:a'.cells= [a']:=DZ qW
   refine sr (kg @f0 @f1 @f4 @f6 @f7 @f36 @f37 (Hp.dG c9) @ea @u2 @l3) ?_
   refine⟨⟨j+1,r4,xk++ [kk],_,a',OP,by omega,hr,by simp[vX],Ds,?_,by simp⟩,by omega⟩
   have:=BD (l2:=l7) (ob:= .cells [.v (.int .u8 kd.toNat),a,a']) qW (by rw[Hp.aX _ _ d76,Hp.bt])
   rw[Hp.mZ _ (Ne.symm d76),Hp.set_set]at this
   exact this
  ·obtain rfl:j=M:=by omega
   rw[Nat.sub_self]at hr
   obtain⟨hr3,hr4⟩:xk=(qu (vl d) j r3 []).1∧r'=(qu (vl d) j r3 []).2:=by rw[←hr];exact⟨rfl,rfl⟩
   rw[←hr3,←hr4]
   refine sr (c8 @f0 @f1 @f4 @f6 @f7 @f36 @f37 @aW) ?_
   refine bC (a6X _ _ l6 r' (MO.rs hM).full) ?_
   rintro x s7 ⟨h7,rfl⟩
   obtain⟨OP,yj⟩:=MO.KC hM (q7' _) h7
   clear hM
   have c8:=(LH _ _ _ _ _ _ _ yj).1
   have c4:=(LH _ _ _ _ _ _ _ yj).2
   have ss:uv B s7 ⟨kd,acc,xk⟩ a y:=by
    refine⟨_,av,kv,?_,yj,hA,nF,by simp only;omega,by simp only;omega⟩
    obtain⟨z1,z2⟩:=iC
    refine⟨fun x o hx=> ?_,?_⟩
    ·have x6:x≠l6:=by rintro rfl;rw[n6]at hx;cases hx
     have x7:x≠l7:=by rintro rfl;rw[e7]at hx;cases hx
     rw[Hp.aX _ _ x6,Hp.aX _ _ x7,Hp.pY _ x6]
     exact z1 _ _ (by rw[Hp.aX _ _ x6,Hp.aX _ _ x7];exact hx)
    ·rcases z2 with z2|⟨b,n,cap,cs,q1,q2,q3,q4⟩
     ·exact .inl z2
     ·have x6:b≠l6:=by rintro rfl;rw[Hp.bt]at q2;cases q2
      rw[Hp.aX _ _ x6]at q2
      have x7:b≠l7:=by rintro rfl;rw[Hp.bt]at q2;cases q2
      rw[Hp.aX _ _ x7]at q2
      exact .inr ⟨b,n,cap,cs,q1,q2,by rw[Hp.aX _ _ x6,Hp.aX _ _ x7,Hp.pY _ x6];exact q3,q4⟩
   have xh:=Hp.cy b4 ss.sub
   by_cases c:(FP r').e=0
   ·simp -dsimp -implicitDefEqProofs (disch:=first|omega|assumption|(simp only[rL,Nat.reduceAdd];try omega)) only[go_sem,simprocAttr,-List.reduceReplicate,f0,f1,f4,f6,f7,c,Hp.aV c8,em]
    obtain⟨av',zD,nc⟩:=ss.L
    refine bC (WE ⟨kd,acc,xk⟩ av' zD a y d bq bg s7 nc) ?_
    rintro _ s7 ⟨rfl,rfl⟩
    cases cj:py d ⟨kd,acc,xk⟩with
    |false=>
     refine sr (oS @f0 @f1 @f4 @f6 @f7 @c (Hp.dG c4) @p3 @em @l3 @e0 @Bool.not_false) ?_
     first|exact⟨_,Hp.aH,fin _ _ xh⟩|exact⟨_,Hp.aH,fin _ _ xh,by simp⟩
    |true=>
     refine sr (c9 @f0 @f1 @f4 @f6 @f7 @c (Hp.aV c8) @em @Bool.not_true) ?_
     refine bC (QN ⟨kd,acc,xk⟩ av' zD a y d bq bg s7 nc) ?_
     rintro r s8 ⟨h8,qA⟩
     rw[KT,if_pos cj]at qA
     obtain⟨oe,rfl⟩:=qA
     replace ss:=ss.mono h8
     replace xh:=Hp.cy xh h8
     replace c8:=h8 _ _ c8
     replace c4:=h8 _ _ c4
     refine sr (c6 @f0 @f1 @f4 @f6 @f7 @c) ?_
     have vX:=Ra bg cj fun k hk=>(nc.kids.all k hk).1
     refine bC (a5D (jJ ⟨kd,acc,xk⟩) bs oe o s8 (by omega)) ?_
     rintro _ s8 ⟨rfl,rfl⟩
     by_cases wZ:jJ ⟨kd,acc,xk⟩=bs
     ·refine sr (qF @f0 @f1 @f4 @f6 @f7 @c @wZ (Hp.aV c8) (Hp.dG c4) @p3 @em @l3 @e0 @Bool.not_true) ?_
      have:=ss.set (ob:= .cells [.v (.int .u8 kd.toNat),a,y]) g4
      refine⟨_,Hp.aH,fin _ _ xh,?_⟩
      exact⟨a,y,rfl,this.base (fin _ _ b4)⟩
     ·refine sr (qF @f0 @f1 @f4 @f6 @f7 @c @wZ (Hp.aV c8) (Hp.dG c4) @p3 @em @l3 @e0 @Bool.not_false) ?_
      first|exact⟨_,Hp.aH,fin _ _ xh⟩|exact⟨_,Hp.aH,fin _ _ xh,by simp⟩
   ·refine sr (kg @f0 @f1 @f4 @f6 @f7 @c (Hp.dG c4) @p3 @em @l3 @e0) ?_
    first|exact⟨_,Hp.aH,fin _ _ xh⟩|exact⟨_,Hp.aH,fin _ _ xh,by simp⟩
theorem WG: ∀(rs:List (List Int×Bool)) (S:Sy),S.bx.1.length≤8→S.bx.2.length≤8→(rs.foldl wP S).bx.1.length≤8∧(rs.foldl wP S).bx.2.length≤8
 | [],S,h1,h2=>⟨h1,h2⟩
 |r::rs,S,h1,h2=>by
  rw[List.foldl_cons]
  refine WG rs _ ?_ ?_<;>unfold wP<;>split
  ·exact(HH _ _ 8 h1 h2 JZ.1 JZ.2).1
  ·exact h1
  ·exact(HH _ _ 8 h1 h2 JZ.1 JZ.2).2
  ·exact h2
theorem WH: ∀(ks:List Kd) (S:Sy),(∀k∈ks,k.Le)→S.bx.1.length≤8→S.bx.2.length≤8→(ks.foldl Ab S).bx.1.length≤8∧(ks.foldl Ab S).bx.2.length≤8
 | [],S,_,h1,h2=>⟨h1,h2⟩
 |k::ks,S,hk,h1,h2=>by
  rw[List.foldl_cons]
  have:=hk k (by simp)
  exact WH ks _ (fun x hx=>hk x (by simp[hx])) (HH _ _ 8 h1 h2 this.lo this.hi).1 (HH _ _ 8 h1 h2 this.lo this.hi).2
theorem Nl {d:Nat} (bg:d≤8) {n:gM}{k:Kd} (h:sS d n=some k):k.sum.length=32∧k.lo.length≤8∧k.hi.length≤8∧k.key.length≤8:=by
 unfold sS at h
 split at h
 ·rename_i cj
  split at h
  ·cases h
  ·obtain rfl:=Option.some.inj h
   obtain⟨g1,_,_⟩:=Bt cj
   have g4:=MN bg cj
   have hs:=WG n.rows ⟨0,n.rows.length,([],[])⟩ (by simp) (by simp)
   have pM:=WH n.kids _ g4 hs.1 hs.2
   refine⟨HA _,pM.1,pM.2,?_⟩
   simp only[vO,keyOf]
   split
   ·cases hr:n.rows with
    |nil=>simp
    |cons a b=>have:=g1 a (by rw[hr];simp);simp only[List.headD_cons];omega
   ·split
    ·cases hr:n.kids with
     |nil=>simp[cO]
     |cons a b=>exact(g4 a (by rw[hr];simp)).key
    ·simp
 ·cases h
theorem a0g {d:Nat} (bg:d≤8) {n:gM}{k:Kd} (h:sS d n=some k):k.Sh:=by
 obtain⟨_,h1,h2,h3⟩:=Nl bg h
 exact⟨by omega,by omega,by omega⟩
theorem eC.len {s:Hp}{l lM:Nat}{S:bW} (h:eC s l lM S) {d b:List UInt8} (hd:d.length=32) (hb:S.m d=some b):b.length≤1000000000000:=by
 obtain⟨F,_,h4⟩:=h.mp
 have:=h4 d hd
 rw[hb]at this;exact this.1
def Am (S:bW) (d:Nat) (k:Kd):Option gM:=
 match S.m k.sum with
 |none=>none
 |some b=>match Iy d b with
  |none=>none
  |some n=>if sS d n=some k then some n else none
theorem XQ (s:Hp) (l lM:Nat) (S:bW) (hS:eC s l lM S) (k:Kd) (o1 o2 o3:Own) (gQ:k.sum.length=32) (mj:k.Sh) (d:Nat) (bq:1≤d) (bg:d≤8):
  AC Tryz.prog 80 [.ptr l 0,.agg (aS k o1 o2 o3),.v (.int .i64 (d:Int))] s fun r s'=>s.sub s'∧match Am S d k with
   |none=>r= .dr [St,.v (.int .i64 21)]
   |some n=> ∃x y,r= .dr [xS n x y,.v (.int .i64 0)]∧uv s s' n x y:=by
 refine cR hm ads (by simp) ?_
 have e0: ∀cs,(AV.agg cs).cells=cs:=fun _=>rfl
 have p3: ∀a b c x y z:AV,putAt [a,b,c] 0 [x,y,z]= [x,y,z]:=fun _ _ _ _ _ _=>rfl
 have em: ∀a b c,cK true 3 [a,b,c]= .agg [a,b,c]:=fun _ _ _=>rfl
 have l3: ∀a b c:AV,[a,b,c].length=3:=fun _ _ _=>rfl
 have hK:=eA (o1:=o1) (o2:=o2) (o3:=o3) gQ
 have fL:=hK.len
 have zl:=(eA (o1:= .nil) (o2:= .nil) (o3:= .nil) eY).len
 refine sr (c2 @e0 @fL) ?_
 refine cP fun l4 n4=> ?_
 refine sr (c2 @e0 @fL) ?_
 refine cP fun l6 n6=> ?_
 have d46:l4≠l6:=by rintro rfl;rw[Hp.bt]at n6;cases n6
 have ti:s l6=none:=by rw[Hp.aX _ _ (Ne.symm d46)]at n6;exact n6
 have d64:=Ne.symm d46
 obtain⟨B,hB⟩: ∃B:Hp,B=(s.set l4 (.cells (aS k o1 o2 o3))).set l6 (.cells [.v (.int .u8 0),.sl [] .nil,.sl [] .nil]):=⟨_,rfl⟩
 have dm:s.sub B:=by rw[hB];exact Hp.bT (Hp.bT Hp.aH n4) ti
 have c4:B l4=some (.cells (aS k o1 o2 o3)):=by rw[hB,Hp.aX _ _ d46,Hp.bt]
 have c6:B l6=some (.cells [.v (.int .u8 0),.sl [] .nil,.sl [] .nil]):=by rw[hB,Hp.bt]
 have fin: ∀(s':Hp) (ob:Ob),s.sub s'→s.sub (s'.set l6 ob):=fun s' ob h=>Hp.bT h ti
 have edg:AV.agg (k.sum.map bN)=dg k.sum:=rfl
 simp -dsimp -implicitDefEqProofs (disch:=first|omega|assumption|(simp only[rL,Nat.reduceAdd];try omega)) only[go_sem,simprocAttr,-List.reduceReplicate,e0,fL,Hp.aX,d46,Hp.bt,hK.t32]
 rw[←hB,edg]
 refine bC (a72 B l lM S (hS.mono dm) k.sum gQ) ?_
 rintro r s1 ⟨h1,hr⟩
 have wQ:=Hp.cy dm h1
 have Uf:=h1 _ _ c6
 have ED:=h1 _ _ c4
 unfold Am
 cases hm:S.m k.sum with
 |none=>
  rw[hm]at hr
  obtain rfl:=hr
  refine sr (c5 @e0 (Hp.dG Uf) @p3 @l3 @em) ?_
  exact⟨_,Hp.aH,fin _ _ wQ⟩
 |some b=>
  rw[hm]at hr
  obtain⟨ob,rfl⟩:=hr
  refine sr @e0 ?_
  refine bC (a78 b ob d bq bg s1 (hS.len gQ hm)) ?_
  rintro r s2 ⟨h2,hr⟩
  have Ac:=Hp.cy wQ h2
  have Of:=h2 _ _ Uf
  have a1a:=h2 _ _ ED
  simp only
  cases hd:Iy d b with
  |none=>
   rw[hd]at hr
   obtain rfl:=hr
   refine sr (c3 @e0 @p3 @l3) ?_
   refine cP fun kI iL=> ?_
   have d6:l6≠kI:=by rintro rfl;rw[Of]at iL;cases iL
   have d6':=Ne.symm d6
   refine sr (c9 @e0 @p3 @l3 @em @Hp.set_set @Hp.aX @d6 @d6' (Hp.dG Of)) ?_
   exact⟨_,Hp.aH,fin _ _ (Hp.cy Ac (Hp.bT Hp.aH iL))⟩
  |some n=>
   rw[hd]at hr
   obtain⟨x,y,rfl,ss⟩:=hr
   simp -dsimp -implicitDefEqProofs (disch:=first|omega|assumption|(simp only[rL,Nat.reduceAdd];try omega)) only[go_sem,simprocAttr,-List.reduceReplicate,e0,p3,l3,em]
   refine cP fun kI iL=> ?_
   have d6:l6≠kI:=by rintro rfl;rw[Of]at iL;cases iL
   have d4:l4≠kI:=by rintro rfl;rw[a1a]at iL;cases iL
   obtain⟨s3,wg⟩: ∃s3:Hp,s3=s2.set kI (.cells [.v (.int .u8 (n.kind.toNat:Int)),x,y]):=⟨_,rfl⟩
   have b3:s2.sub s3:=by rw[wg];exact Hp.bT Hp.aH iL
   have gP:s3 kI=some (.cells [.v (.int .u8 (n.kind.toNat:Int)),x,y]):=by rw[wg,Hp.bt]
   refine sr (c5 @e0 @p3 @l3 @em @Hp.set_set) ?_
   rw[←wg]
   obtain⟨av,kv,nc⟩:=(ss.mono b3).L
   refine bC (XP n av kv x y d bq bg s3 nc) ?_
   rintro r s4 ⟨h4,hr⟩
   replace b3:=Hp.cy b3 h4
   replace ss:=ss.mono b3
   have z6:=b3 _ _ Of
   have z4:=b3 _ _ a1a
   have z10:=h4 _ _ gP
   have KD:=Hp.cy Ac b3
   cases hy:sS d n with
   |none=>
    rw[hy]at hr
    obtain rfl:=hr
    have uF:putAt (aS cO .nil .nil .nil) 0 (aS cO .nil .nil .nil)=aS cO .nil .nil .nil:=jV eY eY
    simp -dsimp -implicitDefEqProofs (disch:=first|omega|assumption|(simp only[rL,Nat.reduceAdd];try omega)) only[go_sem,simprocAttr,-List.reduceReplicate,e0,p3,l3,em,fl,zl]
    refine cP fun Jb qk=> ?_
    have GB:l6≠Jb:=by rintro rfl;rw[z6]at qk;cases qk
    have Og:=Ne.symm GB
    refine sr (oS @e0 @p3 @l3 @em @fl @zl @uF @Hp.set_set @Hp.aX @GB @Og (Hp.dG z6)) ?_
    exact⟨_,Hp.aH,fin _ _ (Hp.cy KD (Hp.bT Hp.aH qk)),by simp[hy]⟩
   |some j=>
    rw[hy]at hr
    obtain⟨w1,w2,w3,rfl⟩:=hr
    have hj:=(Nl bg hy).1
    have LI:=a0g bg hy
    have hJ:=eA (o1:=w1) (o2:=w2) (o3:=w3) hj
    have iM:=hJ.len
    have pz:putAt (aS cO .nil .nil .nil) 0 (aS j w1 w2 w3)=aS j w1 w2 w3:=jV eY hj
    refine sr (c8 @e0 @p3 @l3 @em @fl @zl @iM @pz) ?_
    refine cP fun Jb qk=> ?_
    have GB:l6≠Jb:=by rintro rfl;rw[z6]at qk;cases qk
    have Og:=Ne.symm GB
    have Ug:l4≠Jb:=by rintro rfl;rw[z4]at qk;cases qk
    have ap3:kI≠Jb:=by rintro rfl;rw[z10]at qk;cases qk
    obtain⟨s5,jM⟩: ∃s5:Hp,s5=s4.set Jb (.cells (aS j w1 w2 w3)):=⟨_,rfl⟩
    have b5:s4.sub s5:=by rw[jM];exact Hp.bT Hp.aH qk
    refine sr (J3 @e0 @p3 @l3 @em @fl @zl @iM @pz @Hp.set_set @Hp.bt @Hp.aX @Ug hJ.t37 hK.t37 (Hp.aV z4) @fL) ?_
    rw[←jM]
    have y6:=b5 _ _ z6
    have y10:=b5 _ _ z10
    have Ec:=Hp.cy KD b5
    replace ss:=ss.mono b5
    refine bC (Xa j k w1 w2 w3 o1 o2 o3 s5 hj gQ LI) ?_
    rintro _ s5 ⟨rfl,rfl⟩
    by_cases GC:j=k
    ·refine sr (c8 @e0 @p3 @l3 @em @GC @Bool.not_true (Hp.aV y10) (Hp.dG y6)) ?_
     have:=ss.set (ob:= .cells [.v (.int .u8 (n.kind.toNat:Int)),x,y]) Uf
     refine⟨_,Hp.aH,fin _ _ Ec,?_⟩
     simp only[hy,GC,if_true]
     exact⟨x,y,rfl,this.base (fin _ _ wQ)⟩
    ·refine sr (c8 @e0 @p3 @l3 @em @GC @Bool.not_false (Hp.aV y10) (Hp.dG y6)) ?_
     refine⟨_,Hp.aH,fin _ _ Ec,?_⟩
     simp[hy,GC]
theorem Ext.set {l lM x:Nat}{s s':Hp}{ob:Ob} (h:Ext l lM s s') (hx:s x=none):Ext l lM s (s'.set x ob):=fun y o h1 h2 h3=>by
 have bI:y≠x:=by rintro rfl;rw[hx]at h3;cases h3
 rw[Hp.aX _ _ bI];exact h y o h1 h2 h3
theorem a79 (s:Hp) (l lM:Nat) (S:bW) (hS:eC s l lM S) (n:gM) (av kv:List AV) (x y:AV) (d:Nat) (bq:1≤d) (bg:d≤8) (hN:nR s n x y av kv):
  AC Tryz.prog 59 [.ptr l 0,xS n x y,.v (.int .i64 (d:Int))] s fun r s'=>match sS d n with
   |none=>s.sub s'∧r= .dr [.agg (aS cO .nil .nil .nil),.v (.int .i64 1)]
   |some k=>eC s' l lM (pF S (jJ n))∧Ext l lM s s'∧ ∃o1 o2 o3,r= .dr [.agg (aS k o1 o2 o3),.v (.int .i64 0)]:=by
 refine cR hm ad6 (by simp) ?_
 have e0: ∀cs,(AV.agg cs).cells=cs:=fun _=>rfl
 have em: ∀a b c,cK true 3 [a,b,c]= .agg [a,b,c]:=fun _ _ _=>rfl
 have l3: ∀a b c:AV,[a,b,c].length=3:=fun _ _ _=>rfl
 have t3: ∀a b c:AV,List.take 3 [a,b,c]= [a,b,c]:=fun _ _ _=>rfl
 have zl:=(eA (o1:= .nil) (o2:= .nil) (o3:= .nil) eY).len
 have zt:=(eA (o1:= .nil) (o2:= .nil) (o3:= .nil) eY).t37
 have uF:putAt (aS cO .nil .nil .nil) 0 (aS cO .nil .nil .nil)=aS cO .nil .nil .nil:=jV eY eY
 refine sr (c2 @e0 @l3) ?_
 refine cP fun l4 n4=> ?_
 refine sr (c3 @e0 @fl @zl) ?_
 refine cP fun l6 n6=> ?_
 have d46:l4≠l6:=by rintro rfl;rw[Hp.bt]at n6;cases n6
 have ti:s l6=none:=by rw[Hp.aX _ _ (Ne.symm d46)]at n6;exact n6
 obtain⟨B,hB⟩: ∃B:Hp,B=(s.set l4 (.cells [.v (.int .u8 (n.kind.toNat:Int)),x,y])).set l6 (.cells (aS cO .nil .nil .nil)):=⟨_,rfl⟩
 have dm:s.sub B:=by rw[hB];exact Hp.bT (Hp.bT Hp.aH n4) ti
 have c4:B l4=some (.cells [.v (.int .u8 (n.kind.toNat:Int)),x,y]):=by rw[hB,Hp.aX _ _ d46,Hp.bt]
 have c6:B l6=some (.cells (aS cO .nil .nil .nil)):=by rw[hB,Hp.bt]
 have fin: ∀(s':Hp) (ob:Ob),s.sub s'→s.sub (s'.set l6 ob):=fun s' ob h=>Hp.bT h ti
 refine sr (c9 @e0 @fl @zl @l3 @em @t3 @Hp.aX @d46 @Hp.bt) ?_
 rw[←hB]
 refine bC (XP n av kv x y d bq bg B (hN.mono dm)) ?_
 rintro r s1 ⟨h1,hr⟩
 have wQ:=Hp.cy dm h1
 have g4:=h1 _ _ c4
 have g6:=h1 _ _ c6
 cases hy:sS d n with
 |none=>
  rw[hy]at hr
  obtain rfl:=hr
  simp -dsimp -implicitDefEqProofs (disch:=first|omega|assumption|(simp only[rL,Nat.reduceAdd];try omega)) only[go_sem,simprocAttr,-List.reduceReplicate,e0,fl,zl,uF]
  refine cP fun l8 n8=> ?_
  have GB:l6≠l8:=by rintro rfl;rw[g6]at n8;cases n8
  have Og:=Ne.symm GB
  refine sr (gP @e0 @fl @zl @uF @zt @Hp.set_set @Hp.aX @GB @Og (Hp.dG g6)) ?_
  exact⟨_,Hp.aH,fin _ _ (Hp.cy wQ (Hp.bT Hp.aH n8))⟩
 |some j=>
  rw[hy]at hr
  obtain⟨w1,w2,w3,rfl⟩:=hr
  have cj:py d n=true:=by
   unfold sS at hy
   split at hy
   ·assumption
   ·cases hy
  have hj:=(Nl bg hy).1
  have hJ:=eA (o1:=w1) (o2:=w2) (o3:=w3) hj
  have iM:=hJ.len
  have pz:putAt (aS cO .nil .nil .nil) 0 (aS j w1 w2 w3)=aS j w1 w2 w3:=jV eY hj
  refine sr (c5 @e0 @fl @zl @iM @pz) ?_
  refine cP fun l8 n8=> ?_
  have Ug:l4≠l8:=by rintro rfl;rw[g4]at n8;cases n8
  have nV:=Hp.iJ wQ n8
  have d68:l6≠l8:=by rintro rfl;rw[g6]at n8;cases n8
  obtain⟨s2,pM⟩: ∃s2:Hp,s2=s1.set l8 (.cells (aS j w1 w2 w3)):=⟨_,rfl⟩
  have b2:s1.sub s2:=by rw[pM];exact Hp.bT Hp.aH n8
  have c8:s2 l8=some (.cells (aS j w1 w2 w3)):=by rw[pM,Hp.bt]
  refine sr (oS @e0 @fl @zl @iM @pz @Hp.set_set @Hp.aX @Ug (Hp.aV g4) @em @l3 @t3) ?_
  rw[←pM]
  have Ac:=Hp.cy wQ b2
  refine bC (QN n av kv x y d bq bg s2 (hN.mono Ac)) ?_
  rintro r s3 ⟨h3,hr⟩
  rw[KT,if_pos cj]at hr
  obtain⟨oe,rfl⟩:=hr
  have KD:=Hp.cy Ac h3
  have vX:=Ra bg cj fun k hk=>(hN.kids.all k hk).1
  refine sr @e0 ?_
  refine bC (a73 s3 l lM S (hS.mono KD) (jJ n) oe (by omega)) ?_
  rintro _ s4 ⟨rfl,Dt,Uh⟩
  have hl6:l6≠l:=by rintro rfl;obtain⟨_,_,h⟩:=hS.at_;rw[h]at ti;cases ti
  have iC:l6≠lM:=by rintro rfl;obtain⟨_,⟨_,_,h,_⟩,_⟩:=hS.mp;rw[h]at ti;cases ti
  have hl8:l8≠l:=by rintro rfl;obtain⟨_,_,h⟩:=hS.at_;rw[h]at nV;cases nV
  have yj:l8≠lM:=by rintro rfl;obtain⟨_,⟨_,_,h,_⟩,_⟩:=hS.mp;rw[h]at nV;cases nV
  have k6:=Uh _ _ hl6 iC (h3 _ _ (b2 _ _ g6))
  have k8:=Uh _ _ hl8 yj (h3 _ _ c8)
  refine sr (c7 @e0 (Hp.aV k8) (Hp.dG k6) hJ.t37 @iM @zl @pz) ?_
  refine⟨_,Hp.aH,Dt.other (Hp.aX _ _ (Ne.symm hl6)) (Hp.aX _ _ (Ne.symm iC)),?_,w1,w2,w3,rfl⟩
  exact((Ext.of KD).trans Uh).set ti
end Go.Proofs.YtonldhgdjjfahaaGreat
namespace Go.au
def val:List Bool→Nat
 | []=>0
 |b::l=>(if b then 2^l.length else 0)+val l
theorem CH: ∀l:List Bool,val l<2^l.length
 | []=>by simp[val]
 |b::l=>by
  have:=CH l
  simp only[val,List.length_cons,Nat.pow_succ]
  split<;>omega
def lexB:List Bool→List Bool→Bool
 |x::a,y::b=>if x=y then lexB a b else y
 | _,_=>false
theorem Fs: ∀ {a b:List Bool},a.length=b.length→(val a<val b↔lexB a b=true)
 | [],[],_=>by simp[val,lexB]
 |x::a,y::b,h=>by
  have h':a.length=b.length:=by simpa using h
  have ha:=CH a;have hb:=CH b
  simp only[val,lexB]
  rw[h']at ha⊢
  cases x<;>cases y<;>simp[←Fs h']<;>omega
theorem val_inj: ∀ {a b:List Bool},a.length=b.length→val a=val b→a=b
 | [],[],_,_=>rfl
 |x::a,y::b,h,e=>by
  have h':a.length=b.length:=by simpa using h
  have ha:=CH a;have hb:=CH b
  simp only[val]at e
  rw[h']at ha e
  have:x=y:=by cases x<;>cases y<;>simp at e⊢ <;>omega
  subst this
  rw[val_inj h' (by omega)]
theorem Yu {a b c d:List Bool} (h:a.length=c.length):lexB (a++b) (c++d)=if a=c then lexB b d else lexB a c:=by
 induction a generalizing c with
 |nil=>obtain rfl:=List.eq_nil_of_length_eq_zero (h.symm:c.length=0);simp
 |cons x a ih=>
  match c,h with
  |y::c,h=>
   have h':a.length=c.length:=by simpa using h
   simp only[List.cons_append,lexB,ih h']
   by_cases nD:x=y
   ·subst nD;simp
   ·simp[nD]
def qX (P:List Nat) (b:Nat):List Bool:=P.map (·.testBit b)
def kb (P:List Nat):Nat→List Bool
 |0=> []
 |b+1=>qX P b++kb P b
theorem XR (P:List Nat): ∀b,(kb P b).length=P.length*b
 |0=>by simp[kb]
 |b+1=>by simp[kb,qX,XR P b,Nat.mul_succ];omega
def pick (st:(Nat×Nat)×Nat) (c:Nat×Nat):(Nat×Nat)×Nat:=
 if st.2<c.1^^^c.2∧st.2<st.2^^^(c.1^^^c.2)then(c,c.1^^^c.2)else st
theorem aei {x y n:Nat} (hx:x<2^n) (hy:y<2^n):x^^^y<2^n:=Nat.xor_lt_two_pow hx hy
theorem MU {x b:Nat} (h:x.testBit b=true):2^b≤x:=Nat.ge_two_pow_of_testBit h
theorem JP {x b:Nat} (h:x<2^(b+1)) (h2:x.testBit b=false):x<2^b:=by
 refine Nat.lt_pow_two_of_testBit x fun i hi=> ?_
 by_cases hib:i=b
 ·subst hib;exact h2
 ·exact Nat.testBit_lt_two_pow (Nat.lt_of_lt_of_le h (Nat.pow_le_pow_right (by omega) (by omega)))
theorem XS {b:Nat}: ∀(l:List (Nat×Nat)) (st:(Nat×Nat)×Nat),st.2.testBit b=true→st.2<2^(b+1)→(∀c∈l,c.1^^^c.2<2^(b+1))→l.foldl pick st=st
 | [],st,_,_,_=>rfl
 |c::l,st,h,h2,hl=>by
  have hc:=hl c (by simp)
  have:pick st c=st:=by
   simp only[pick]
   rw[if_neg]
   rintro ⟨h3,h4⟩
   have h5:=MU h
   cases hb:(c.1^^^c.2).testBit b with
   |false=>have:=JP hc hb;omega
   |true=>
    have h6:(st.2^^^(c.1^^^c.2)).testBit b=false:=by rw[Nat.testBit_xor,h,hb];rfl
    have:=JP (aei h2 hc) h6
    omega
  rw[List.foldl_cons,this]
  exact XS l st h h2 (fun c hc=>hl c (by simp[hc]))
theorem abt {b:Nat}{st:(Nat×Nat)×Nat}{c:Nat×Nat} (h:st.2<2^b) (hb:(c.1^^^c.2).testBit b=true):pick st c=(c,c.1^^^c.2):=by
 simp only[pick]
 refine if_pos ⟨Nat.lt_of_lt_of_le h (MU hb),Nat.lt_of_lt_of_le h (MU (b:=b) ?_)⟩
 have:st.2.testBit b=false:=Nat.testBit_lt_two_pow h
 rw[Nat.testBit_xor,this,hb];rfl
theorem W8 {x y b:Nat} (hx:x.testBit b=false) (hy:y.testBit b=true) (GD: ∀j,b<j→x.testBit j=y.testBit j):x<y:=by
 have e:x>>>(b+1)=y>>>(b+1):=Nat.eq_of_testBit_eq fun j=>by
  rw[Nat.testBit_shiftRight,Nat.testBit_shiftRight];exact GD _ (by omega)
 have h1:x%2^(b+1)<2^b:=JP (Nat.mod_lt _ (Nat.two_pow_pos _)) (by rw[Nat.testBit_mod_two_pow];simp[hx])
 have h2:2^b≤y%2^(b+1):=MU (by rw[Nat.testBit_mod_two_pow];simp[hy])
 have d1:=Nat.div_add_mod x (2^(b+1))
 have d2:=Nat.div_add_mod y (2^(b+1))
 rw[Nat.shiftRight_eq_div_pow,Nat.shiftRight_eq_div_pow]at e
 rw[e]at d1
 omega
theorem a7a {x y b:Nat} (nD:x^^^y<2^(b+1)) (hd:x.testBit b≠y.testBit b):x<y↔y.testBit b=true:=by
 have GD: ∀j,b<j→x.testBit j=y.testBit j:=fun j hj=>by
  have h:(x^^^y).testBit j=false:=Nat.testBit_lt_two_pow (Nat.lt_of_lt_of_le nD (Nat.pow_le_pow_right (by omega) (by omega)))
  rw[Nat.testBit_xor]at h
  revert h;cases x.testBit j<;>cases y.testBit j<;>simp
 cases hy:y.testBit b with
 |true=>
  have hx:x.testBit b=false:=by rw[hy]at hd;simpa using hd
  simp only[iff_true]
  exact W8 hx hy GD
 |false=>
  have hx:x.testBit b=true:=by rw[hy]at hd;simpa using hd
  have:=W8 hy hx (fun j hj=>(GD j hj).symm)
  constructor
  ·intro h;omega
  ·intro h;cases h
theorem Xc (b:Nat): ∀(P Q:List Nat),P.length=Q.length→(∀c∈P.zip Q,c.1^^^c.2<2^(b+1))→qX P b≠qX Q b→ ∀st:(Nat×Nat)×Nat,st.2<2^b→
  (((P.zip Q).foldl pick st).1.1<((P.zip Q).foldl pick st).1.2↔lexB (qX P b) (qX Q b)=true)
 | [],[],_,_,h,_,_=>absurd rfl h
 |x::P,y::Q,hl,aW,bI,st,dT=>by
  have gX:P.length=Q.length:=by simpa using hl
  have hc:=aW (x,y) (by simp)
  simp only[List.zip_cons_cons,List.foldl_cons,qX,List.map_cons,lexB]at bI⊢
  by_cases nD:x.testBit b=y.testBit b
  ·rw[if_pos nD]
   have LJ:(x^^^y).testBit b=false:=by rw[Nat.testBit_xor,nD];simp
   refine Xc b P Q gX (fun c hc=>aW c (by simp[hc])) (fun h=>bI ?_) _ ?_
   ·rw[nD];exact congrArg _ h
   ·simp only[pick]
    split
    ·exact JP hc LJ
    ·exact dT
  ·rw[if_neg nD]
   have gW:(x^^^y).testBit b=true:=by
    rw[Nat.testBit_xor];revert nD;cases x.testBit b<;>cases y.testBit b<;>simp
   rw[abt (c:=(x,y)) dT gW,XS _ _ gW hc (fun c hc=>aW c (by simp[hc]))]
   exact a7a hc nD
theorem a8G {P Q:List Nat}{b:Nat} (hl:P.length=Q.length) (h: ∀c∈P.zip Q,c.1^^^c.2<2^(b+1)) (he:qX P b=qX Q b): ∀c∈P.zip Q,c.1^^^c.2<2^b:=by
 intro c hc
 refine JP (h c hc) ?_
 obtain⟨i,hi,rfl⟩:=List.getElem_of_mem hc
 simp only[List.length_zip]at hi
 have e:(qX P b)[i]? =(qX Q b)[i]? :=by rw[he]
 simp only[qX,List.getElem?_map]at e
 rw[List.getElem?_eq_getElem (by omega),List.getElem?_eq_getElem (by omega)]at e
 simp only[Option.map_some,Option.some.injEq]at e
 simp only[List.getElem_zip,Nat.testBit_xor,e]
 simp
theorem Zr: ∀(b:Nat) (P Q:List Nat),P.length=Q.length→(∀c∈P.zip Q,c.1^^^c.2<2^b)→ ∀c0:Nat×Nat,c0∈P.zip Q→
  (((P.zip Q).foldl pick (c0,0)).1.1<((P.zip Q).foldl pick (c0,0)).1.2↔lexB (kb P b) (kb Q b)=true)
 |0,P,Q,hl,aW,c0,h0=>by
  have: ∀(l:List (Nat×Nat)),(∀c∈l,c.1^^^c.2<2^0)→l.foldl pick (c0,0)=(c0,0):=by
   intro l
   induction l with
   |nil=>intro _;rfl
   |cons c l ih=>
    intro h
    have hc:=h c (by simp)
    have:pick (c0,0) c=(c0,0):=by simp only[pick];rw[if_neg];simp at hc⊢;simp[hc]
    rw[List.foldl_cons,this];exact ih fun c hc=>h c (by simp[hc])
  rw[this _ aW]
  have h1:=aW c0 h0
  have h2:c0.1=c0.2:=Nat.eq_of_testBit_eq fun j=>by
   have h3:(c0.1^^^c0.2).testBit j=false:=by rw[show c0.1^^^c0.2=0 by simpa using h1];simp
   rw[Nat.testBit_xor]at h3
   revert h3;cases c0.1.testBit j<;>cases c0.2.testBit j<;>simp
  simp[kb,lexB,h2]
 |b+1,P,Q,hl,aW,c0,h0=>by
  simp only[kb]
  rw[Yu (by simp[qX,hl])]
  by_cases he:qX P b=qX Q b
  ·rw[if_pos he]
   exact Zr b P Q hl (a8G hl aW he) c0 h0
  ·rw[if_neg he]
   exact Xc b P Q hl aW he _ (by simp;exact Nat.two_pow_pos b)
theorem aej {P Q:List Nat} (hl:P.length=Q.length): ∀b,kb P b=kb Q b→(∀x∈P,x<2^b)→(∀x∈Q,x<2^b)→P=Q:=by
 intro b he hP hQ
 have ai9: ∀b,kb P b=kb Q b→ ∀j,j<b→qX P j=qX Q j:=by
  intro b
  induction b with
  |zero=>intro _ j hj;omega
  |succ b ih=>
   intro h j hj
   simp only[kb]at h
   obtain⟨h1,h2⟩:=List.append_inj h (by simp[qX,hl])
   by_cases Ly:j=b
   ·subst Ly;exact h1
   ·exact ih h2 j (by omega)
 refine List.ext_getElem hl fun i h1 h2=>Nat.eq_of_testBit_eq fun j=> ?_
 by_cases hj:j<b
 ·have e:(qX P j)[i]? =(qX Q j)[i]? :=by rw[ai9 b he j hj]
  simp only[qX,List.getElem?_map]at e
  rw[List.getElem?_eq_getElem h1,List.getElem?_eq_getElem h2]at e
  simpa using e
 ·have hp:P[i]<2^j:=Nat.lt_of_lt_of_le (hP _ (List.getElem_mem h1)) (Nat.pow_le_pow_right (by omega) (by omega))
  have hq:Q[i]<2^j:=Nat.lt_of_lt_of_le (hQ _ (List.getElem_mem h2)) (Nat.pow_le_pow_right (by omega) (by omega))
  rw[Nat.testBit_lt_two_pow hp,Nat.testBit_lt_two_pow hq]
def vH:Nat→List Bool→List UInt8
 |0,_=> []
 |n+1,l=>UInt8.ofNat (val (l.take 8))::vH n (l.drop 8)
theorem WI: ∀(n:Nat) (l:List Bool),(vH n l).length=n
 |0,_=>rfl
 |n+1,l=>by simp[vH,WI n]
def KV:List UInt8→List UInt8→Bool
 |x::a,y::b=>if x=y then KV a b else decide (x<y)
 | _,_=>false
theorem aek {a b:Nat} (ha:a<256) (hb:b<256) (h:UInt8.ofNat a=UInt8.ofNat b):a=b:=by
 have:=congrArg UInt8.toNat h
 simpa[UInt8.toNat_ofNat',Nat.mod_eq_of_lt ha,Nat.mod_eq_of_lt hb] using this
theorem XT: ∀(n:Nat) (l m:List Bool),l.length=8*n→m.length=8*n→KV (vH n l) (vH n m)=lexB l m
 |0,l,m,h,h2=>by
  obtain rfl:=List.eq_nil_of_length_eq_zero (by simpa using h)
  obtain rfl:=List.eq_nil_of_length_eq_zero (by simpa using h2);rfl
 |n+1,l,m,hl,hm=>by
  have e1:(l.take 8).length=8:=by simp;omega
  have e2:(m.take 8).length=8:=by simp;omega
  have q1:val (l.take 8)<256:=by have:=CH (l.take 8);rw[e1]at this;exact this
  have q2:val (m.take 8)<256:=by have:=CH (m.take 8);rw[e2]at this;exact this
  have ih:=XT n (l.drop 8) (m.drop 8) (by simp;omega) (by simp;omega)
  conv=>rhs;rw[←List.take_append_drop 8 l,←List.take_append_drop 8 m]
  rw[Yu (e1.trans e2.symm)]
  simp only[vH,KV]
  by_cases he:l.take 8=m.take 8
  ·rw[he];simp[ih]
  ·rw[if_neg he,if_neg (fun h=>he (val_inj (e1.trans e2.symm) (aek q1 q2 h)))]
   have:=Fs (e1.trans e2.symm)
   have aW:UInt8.ofNat (val (l.take 8))<UInt8.ofNat (val (m.take 8))↔val (l.take 8)<val (m.take 8):=by
    rw[UInt8.lt_iff_toNat_lt];simp[UInt8.toNat_ofNat',Nat.mod_eq_of_lt q1,Nat.mod_eq_of_lt q2]
   rw[←Bool.coe_iff_coe]
   simp only[decide_eq_true_eq,aW,this]
theorem a5G {a b c:List Bool} (h1:a.length=b.length) (h2:b.length=c.length) (GF:lexB a b=true) (GG:lexB b c=true):lexB a c=true:=by
 rw[←Fs h1]at GF;rw[←Fs h2]at GG;rw[←Fs (h1.trans h2)];omega
theorem a5H {a b:List Bool} (h:a.length=b.length) (h1:lexB a b=false) (h2:lexB b a=false):a=b:=by
 refine val_inj h ?_
 have k1:=Fs h;have k2:=Fs h.symm
 rw[h1]at k1;rw[h2]at k2
 simp at k1 k2;omega
end Go.au
namespace Go.Proofs.YtonldhgdjjfahaaGreat
open Go Go.Av
theorem Yv {a b:Nat} (ha:a<18446744073709551616) (hb:b<18446744073709551616):eL .xor (.int .u64 (a:Int)) (.int .u64 (b:Int))=some (.int .u64 ((a^^^b:Nat):Int)):=by
 have h:eL .xor (.int .u64 (a:Int)) (.int .u64 (b:Int))=some (.int .u64 (IntKind.u64.wrap (BitVec.ofInt 64 (a:Int)^^^BitVec.ofInt 64 (b:Int)).toNat)):=rfl
 have e1: ∀x:Nat,x<18446744073709551616→(BitVec.ofInt 64 (x:Int)).toNat=x:=fun x hx=>by simp;omega
 have hx:a^^^b<18446744073709551616:=Nat.xor_lt_two_pow (n:=64) ha hb
 rw[h,BitVec.toNat_xor,e1 a ha,e1 b hb,wrap_u64 (by omega) (by omega)]
theorem E2 (n:Int):gV n<18446744073709551616:=(BitVec.ofInt 64 n^^^BitVec.ofInt 64 9223372036854775808).isLt
theorem Xd (n:Int) (s:Hp):AC Tryz.prog 96 [.v (.int .i64 n)] s fun r s'=>s'=s∧r= .v (.int .u64 (gV n:Int)):=by
 refine cR hm ady (by simp) ?_
 refine sr @Zi ?_
 exact⟨s,Hp.aH,rfl⟩
theorem a4X (d:Int) (s:Hp):AC Tryz.prog 95 [.v (.int .i64 d)] s fun r s'=>s'=s∧r= .v (.bool (decide (1≤d)&&decide (d≤8))):=by
 refine cR hm adx (by simp) ?_
 by_cases h:1≤d
 ·refine sr @h ?_
  exact⟨s,Hp.aH,by simp[h]⟩
 ·refine sr @h ?_
  exact⟨s,Hp.aH,by simp[h]⟩
def sQ (st:(Int×Int)×Nat) (c:Int×Int):(Int×Int)×Nat:=
 if st.2<gV c.1^^^gV c.2∧st.2<st.2^^^(gV c.1^^^gV c.2)then(c,gV c.1^^^gV c.2)else st
def da (p q:List Int):Bool:=
 if 1≤p.length∧p.length≤8∧q.length=p.length then
  decide (((p.zip q).foldl sQ ((p.zip q).headD (0,0),0)).1.1<((p.zip q).foldl sQ ((p.zip q).headD (0,0),0)).1.2)
 else false
theorem JU (p q:List Int) (o1 o2:Own) (s:Hp):
  AC Tryz.prog 58 [.sl (bA p) o1,.sl (bA q) o2] s fun r s'=>s'=s∧r= .v (.bool (da p q)):=by
 refine cR hm ad5 (by simp) ?_
 have la:=kP (r:=p)
 have lb:=kP (r:=q)
 refine sr @la ?_
 refine bC (a4X _ _) ?_
 rintro _ s ⟨rfl,rfl⟩
 unfold da
 by_cases h1:1≤p.length∧p.length≤8
 ·have h1a:(1:Int)≤p.length:=by omega
  have h1b:(p.length:Int)≤8:=by omega
  by_cases h2:(q.length:Int)=p.length
  ·have J1:q.length=p.length:=by omega
   rw[if_pos ⟨h1.1,h1.2,J1⟩]
   refine sr (c6 @la @lb @h1a @h1b @h2 @Bool.not_true) ?_
   have hz:(p.zip q).length=p.length:=by simp[J1]
   have c0: ∀i,i<p.length→ ∃c,(p.zip q)[i]? =some c∧p[i]? =some c.1∧q[i]? =some c.2:=fun i hi=>by
    have hq:i<q.length:=by omega
    exact⟨(p[i],q[i]),by rw[List.getElem?_eq_getElem (by omega)];simp,List.getElem?_eq_getElem hi,List.getElem?_eq_getElem hq⟩
   obtain⟨ch,Gf,TN,hq0⟩:=c0 0 (by omega)
   have Ui:(p.zip q).headD (0,0)=ch:=by
    cases hzz:p.zip q with
    |nil=>rw[hzz]at Gf;cases Gf
    |cons a b=>rw[hzz]at Gf;simpa using Gf
   rw[Ui]
   refine fS (fun f s'=> ∃(i at_:Nat) (st:(Int×Int)×Nat),i≤p.length∧at_<p.length∧s'=s∧st=((p.zip q).take i).foldl sQ (ch,0)∧st.2<18446744073709551616∧p[at_]? =some st.1.1∧q[at_]? =some st.1.2∧
     f 0= .sl (bA p) o1∧f 1= .sl (bA q) o2∧f 5= .v (.int .i64 at_)∧f 6= .v (.int .u64 st.2)∧f 21= .v (.int .i64 p.length)∧f 22= .v (.int .i64 i))
    (fun f _=>match f 22 with| .v (.int _ n)=>p.length - n.toNat| _=>0) ⟨0,0,(ch,0),by omega,by omega,rfl,by simp,by simp,TN,hq0,?_⟩ ?_
   ·exact sz @la
   rintro f sA ⟨i,at_,st,hi,EE,rfl,dT,hb,C0,vn,f0,f1,f5,f6,f21,f22⟩
   by_cases aW:(i:Int)<p.length
   ·obtain⟨c,hc,AN,Du⟩:=c0 i (by omega)
    have ht:((p.zip q).take (i+1)).foldl sQ (ch,0)=sQ st c:=by rw[List.take_add_one,hc,List.foldl_append,←dT];rfl
    simp -dsimp -implicitDefEqProofs (disch:=first|omega|assumption|(simp only[rL,Nat.reduceAdd];try omega)) only[go_sem,simprocAttr,-List.reduceReplicate,f0,f1,f5,f6,f21,f22,aW,oJ AN,oJ Du,uj]
    refine bC (Xd c.1 _) ?_
    rintro _ sA ⟨rfl,rfl⟩
    simp -dsimp -implicitDefEqProofs (disch:=first|omega|assumption|(simp only[rL,Nat.reduceAdd];try omega)) only[go_sem,simprocAttr,-List.reduceReplicate,f0,f1,f5,f6,f21,f22,aW,oJ AN,oJ Du,uj]
    refine bC (Xd c.2 _) ?_
    rintro _ sA ⟨rfl,rfl⟩
    have hx:gV c.1^^^gV c.2<18446744073709551616:=Nat.xor_lt_two_pow (n:=64) (E2 _) (E2 _)
    have jG:st.2^^^(gV c.1^^^gV c.2)<18446744073709551616:=Nat.xor_lt_two_pow (n:=64) hb hx
    have x1:=Yv (E2 c.1) (E2 c.2)
    have x2:=Yv hb hx
    rw[sQ]at ht
    generalize gV c.1^^^gV c.2=X at*
    by_cases k1:(st.2:Int)<(X:Int)
    ·by_cases k2:(st.2:Int)<((st.2^^^X:Nat):Int)
     ·refine sr (gP @f0 @f1 @f5 @f6 @f21 @f22 @x1 @x2 @k1 @k2) ?_
      refine⟨⟨i+1,i,(c,X),by omega,by omega,?_,hx,AN,Du,?_⟩,by omega⟩
      ·rw[ht,if_pos ⟨by omega,by omega⟩]
      ·simp
     ·refine sr (gP @f0 @f1 @f5 @f6 @f21 @f22 @x1 @x2 @k1 @k2) ?_
      refine⟨⟨i+1,at_,st,by omega,EE,?_,hb,C0,vn,?_⟩,by omega⟩
      ·rw[ht,if_neg (by omega)]
      ·simp
    ·refine sr (c9 @f0 @f1 @f5 @f6 @f21 @f22 @x1 @x2 @k1) ?_
     refine⟨⟨i+1,at_,st,by omega,EE,?_,hb,C0,vn,?_⟩,by omega⟩
     ·rw[ht,if_neg (by omega)]
     ·simp
   ·obtain rfl:i=p.length:=by omega
    rw[List.take_of_length_le (by omega)]at dT
    simp -dsimp -implicitDefEqProofs (disch:=first|omega|assumption|(simp only[rL,Nat.reduceAdd];try omega)) only[go_sem,simprocAttr,-List.reduceReplicate,f0,f1,f5,f6,f21,f22,aW,oJ C0,oJ vn,uj]
    exact⟨_,Hp.aH,rfl,by rw[dT]⟩
  ·have J1: ¬q.length=p.length:=by omega
   refine sr (c6 @la @lb @h1a @h1b @h2 @Bool.not_true) ?_
   exact⟨_,Hp.aH,rfl,by rw[if_neg (fun h=>J1 h.2.2)]⟩
 ·have:(decide ((1:Int)≤p.length)&&decide ((p.length:Int)≤8))=false:=by
   rw[Bool.and_eq_false_iff,decide_eq_false_iff_not,decide_eq_false_iff_not];omega
  refine sr (c4 @la @lb @this @Bool.not_false) ?_
  exact⟨_,Hp.aH,rfl,by rw[if_neg (fun h=>h1 ⟨h.1,h.2.1⟩)]⟩
def zh (p q:List Int):Int:=if da p q=true then -1 else if da q p=true then 1 else 0
theorem Qu (p q:List Int) (o1 o2:Own) (s:Hp):
  AC Tryz.prog 31 [.sl (bA p) o1,.sl (bA q) o2] s fun r s'=>s'=s∧r= .v (.int .i64 (zh p q)):=by
 refine cR hm acJ (by simp) ?_
 refine dD ?_
 refine bC (JU p q o1 o2 s) ?_
 rintro _ s ⟨rfl,rfl⟩
 unfold zh
 cases h1:da p q with
 |true=>
  refine dD ?_
  exact⟨_,Hp.aH,rfl⟩
 |false=>
  refine dD ?_
  refine bC (JU q p o2 o1 s) ?_
  rintro _ s ⟨rfl,rfl⟩
  cases h2:da q p with
  |true=>
   refine dD ?_
   exact⟨_,Hp.aH,rfl⟩
  |false=>
   refine dD ?_
   exact⟨_,Hp.aH,rfl⟩
end Go.Proofs.YtonldhgdjjfahaaGreat
