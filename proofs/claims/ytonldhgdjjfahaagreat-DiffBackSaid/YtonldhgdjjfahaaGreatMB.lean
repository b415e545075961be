import Derived.Test.YtonldhgdjjfahaaGreatMA
import Derived.Laws.Cover3
import Derived.WalkSmall
import Derived.LaidEql
import Derived.Lib.Builder
import Derived.Lib.UnsafeStr
import Derived.MapKept
import Derived.WideKeyRuns
import Derived.Lib.Overlaps
import Derived.Laws.Externs
import Derived.KernelRfl
set_option linter.all false
namespace Go.Av
open Go
section
variable {P:Program}{kp:AV→Hp→Prop}{o:Oper}{a:Act}{w:World}{H:PH}{s:Hp}{K:AV→Hp→Prop}{f:Fr}
theorem Hp.set_set (s:Hp) (l:Nat) (o o':Ob):(s.set l o).set l o'=s.set l o':=by
 funext x;simp only[Hp.set];split<;>rfl
theorem ac3 (T:TypeId) (x:Operand) (ho:o.op= .box T x) (hx:cd x=true) (hf:eo H a f) (hh:dv H s w) (hG:G ⟨P,kp⟩ (.yX T x) f s K):eB P kp o a w H s K:=by
 obtain⟨hr,db⟩:=(hf.ev x hx).cells hG.1
 have st:=Step.new hh (a.eval x).cells T _ db hr
 obtain⟨H',Oy⟩:=Step.freeze st.holds (Hp.bt s w.heap.size (.cells (ev f x).cells))
 rw[Hp.set_set]at Oy
 refine .value (v:= .pointer (some ⟨w.heap.size,0,none⟩)) (w':=w.alloc (.cells (a.eval x).cells T)) ?_ (st.trans Oy) (.ptr _ _) (hG.2 _ hh.me)
 simp[execOp,ho,Instr.box,newVar,newRow]
theorem ac4 (t:TypeId) (x:Operand) (lo hi:Option Operand) (ho:o.op= .slice t x lo hi none) (n:Nat) (e:TypeId) (hu:P.underlying t=some (.array n e)) (k:Nat) (hk:(P.info? e).map (·.size)=some k) (Lk:0<k) (hx:cd x=true) (te:lo.all cd=true)
  (uz:hi.all cd=true) (hf:eo H a f) (hh:dv H s w) (hG:G ⟨P,kp⟩ (.yY k n x lo hi) f s K):eB P kp o a w H s K:=by
 refine ZY t x lo hi ho n e hu k hk Lk true hx te uz hf hh ?_
 simp only[G]at hG⊢
 split at hG
 case h_2=>exact hG.elim
 rename_i l off he
 split at hG
 case h_2=>exact hG.elim
 refine⟨hG.1,hG.2.1,hG.2.2.1,?_⟩
 have h3:=hG.2.2.2
 split at h3
 case h_2=>exact h3.elim
 rename_i cs dF
 have:s.read l=some cs:=by simp[Hp.read,dF]
 rw[this]
 refine⟨h3.1,?_⟩
 rw[if_pos (by trivial),Wo dF]
 exact h3.2
theorem a0Q (mx:Bool) (k:IntKind) (x y:Operand) (Dd:Array TypeId) (ho:o.op= .call {callee:= .builtin (if mx then .max else .min),args:= #[x,y],argTypes:=Dd}) (hx:cd x=true) (hy:cd y=true) (hf:eo H a f) (hh:dv H s w) (hG:G ⟨P,kp⟩ (.mm mx k x y) f s K):eB P kp o a w H s K:=by
 have hv:=hf.ev x hx
 have fT:=hf.ev y hy
 simp only[G]at hG
 split at hG
 case h_2=>exact hG.elim
 rename_i k1 b k2 c he kB
 rw[he]at hv;rw[kB]at fT
 have eT:=hv.jc;have tB:=fT.jc
 obtain⟨rfl,hK⟩:=hG
 cases mx
 ·refine .same hh (v:= .int k1 (min b c)) ?_ (.v _ rfl) (by simpa using hK)
  simp only[execOp,ho,resolve,invoke,builtin,Bool.false_eq_true,if_false,Sem.run_bind,Sem.run_pure,Result.andThen_ok,List.map_toArray,List.map_cons,List.map_nil,eT,tB,run_min_int2]
  have:(if c<b then c else b)=min b c:=by omega
  rw[this]
 ·refine .same hh (v:= .int k1 (max b c)) ?_ (.v _ rfl) (by simpa using hK)
  simp only[execOp,ho,resolve,invoke,builtin,if_true,Sem.run_bind,Sem.run_pure,Result.andThen_ok,List.map_toArray,List.map_cons,List.map_nil,eT,tB,run_max_int2]
  have:(if c>b then c else b)=max b c:=by omega
  rw[this]
theorem Mx: ∀ {xs:List AV}{l:List UInt8},bytesOf xs=some l→xs=l.map bN
 | [],l,h=>by simp only[bytesOf,Option.some.injEq]at h;subst h;rfl
 |x::xs,l,h=>by
  simp only[bytesOf]at h
  split at h
  case h_2=>cases h
  rename_i b bs hb Df
  obtain rfl:=Option.some.inj h
  rw[Mx Df,List.map_cons]
  congr 1
  unfold byteOf at hb
  split at hb
  ·rename_i n
   split at hb
   ·rename_i hn
    obtain rfl:=Option.some.inj hb
    simp only[bN]
    congr 2
    have:n.toNat<256:=by omega
    simp[Nat.mod_eq_of_lt this]
    omega
   ·cases hb
  ·cases hb
theorem JQ (l:List UInt8):flat (l.map bN)=l.map bN:=by
 induction l with
 |nil=>rfl
 |cons b l ih=>simp only[flat,List.map_cons,List.flatMap_cons]at ih⊢;rw[ih];rfl
theorem aeJ (st dt:TypeId) (x:Operand) (ho:o.op= .convert st dt x) (e:TypeId) (hs:P.underlying st=some (.slice e)) (vj:P.underlying e=some (.int .u8)) (hd:P.underlying dt=some .string) (hx:cd x=true) (hf:eo H a f) (hh:dv H s w) (hG:G ⟨P,kp⟩ (.D9 x) f s K):eB P kp o a w H s K:=by
 have hv:=hf.ev x hx
 simp only[G]at hG
 split at hG
 case h_2=>exact hG.elim
 rename_i xs ow he
 rw[he]at hv
 split at hG
 case h_2=>exact hG.elim
 rename_i l hl
 have qU:=Mx hl
 subst qU
 generalize dc:a.eval x=xv at hv
 have tH: ∀xv,(convert st dt xv).run P w= .ok (.string ⟨l.toArray⟩) w→a.eval x=xv→eB P kp o a w H s K:=fun xv eG qC=>
  .same hh (v:= .string ⟨l.toArray⟩) (by simp[execOp,ho,qC,eG]) (.v _ rfl) hG
 cases pL:l with
 |nil=>
  subst pL
  cases hv with
  |jo ad cap ow ha cj=>
   refine tH _ ?_ dc
   rw[run_convert_bytes_string w st dt e ad 0 cap hs vj hd]
   cases ad with
   |none=>simp[Conv.bytesToString];rfl
   |some ad=>
    have:=run_bytesToString (P:=P) w ad 0 cap [] (by simp[loadCells,loadCellsFrom])
    rw[this];rfl
  |sl b off len cap k fW xs ow hk hlen ft gr db hH hR cj=>
   refine tH _ ?_ dc
   subst hlen
   rw[run_convert_bytes_string w st dt e _ _ cap hs vj hd]
   have:=run_bytesToString (P:=P) w ⟨b,off,none⟩ 0 cap [] (by simp[loadCells,loadCellsFrom])
   simp only[List.map_nil,List.length_nil]
   rw[this];rfl
 |cons b0 l0=>
  obtain⟨b,off,cap,k,fW,eT,hk,ft,BL,db,hH,hR,_⟩:=hv.R0 (by rw[pL];simp)
  have lF:k=1:=by
   have:=BL (bN b0) (by rw[pL];simp)
   rw[←this];rfl
  subst lF
  refine tH xv ?_ dc
  rw[eT]
  have hb:=run_convert_bytes_arg (P:=P) w st e hs vj b off (l.map bN).length cap (l.map fun b=>(b.toNat:Int)) (by simp) (fun i hi=>by
   have wW:i<l.length:=by simpa using hi
   have h1:=hh.ro _ _ _ (hH i (by simpa using wW))
   rw[h1]
   have h2:=hR i (bN l[i]) (by rw[JQ];simp[wW])
   have h3:fW i= .int .u8 (l[i].toNat):=by unfold bN at h2;exact h2.jc
   rw[h3]
   simp[List.getD,wW]) dt hd
  rw[hb]
  congr 2
  simp only[strOfNums]
  congr 1
  rw[List.map_map]
  congr 1
  conv=>rhs;rw[←List.map_id l]
  apply List.map_congr_left
  intro x _
  simp
theorem Rk {α:Type} (l:List α): ∀(n j:Nat),j<n*l.length→(List.replicate n l).flatten[j]? =l[j%l.length]?
 |0,j,h=>by simp at h
 |n+1,j,h=>by
  rw[List.replicate_succ,List.flatten_cons]
  by_cases hj:j<l.length
  ·rw[List.getElem?_append_left hj,Nat.mod_eq_of_lt hj]
  ·rw[List.getElem?_append_right (by omega),Rk l n (j - l.length) (by rw[Nat.succ_mul]at h;omega)]
   rw[show j%l.length=(j - l.length)%l.length from Nat.mod_eq_sub_mod (by omega)]
theorem yJ {α:Type} (l:List α) (n:Nat):(List.replicate n l).flatten.length=n*l.length:=by
 induction n with
 |zero=>simp
 |succ n ih=>rw[List.replicate_succ,List.flatten_cons,List.length_append,ih,Nat.add_mul,Nat.one_mul,Nat.add_comm]
theorem aeK (t:TypeId) (x y:Operand) (ho:o.op= .makeSlice t x y) (e:TypeId) (hu:P.underlying t=some (.slice e)) (i:TypeInfo) (hi:P.info? e=some i) (z:Value) (hz:i.zero=some z) (qe:z.cells.size=i.size) (tC: ∀x∈z.cells.toList,x.oneCell'=true) (hk:0<i.size)
  (hx:cd x=true) (hy:cd y=true) (hf:eo H a f) (hh:dv H s w) (hG:G ⟨P,kp⟩ (.zo i.size i.bytes (z.cells.toList.map gS) x y) f s K):eB P kp o a w H s K:=by
 have hv:=hf.ev x hx
 have fT:=hf.ev y hy
 simp only[G]at hG
 split at hG
 case h_2=>exact hG.elim
 rename_i k1 n k2 m he kB
 rw[he]at hv;rw[kB]at fT
 have eT:=hv.jc;have tB:=fT.jc
 obtain⟨rfl,h0,td,rC,hK⟩:=hG
 have hr:=run_make (P:=P) w t e i z hu hi hz k1 k2 n n h0 (Int.le_refl _) (by rw[Int.mul_comm];exact rC) td
 have agp:dJ H (madeCells z.cells (n.toNat*i.size)) (List.replicate n.toNat (z.cells.toList.map gS)).flatten:=by
  have pL:(z.cells.toList.map gS).length=i.size:=by simp[qe]
  refine dJ.lD.2 ⟨by simp[size_madeCells,yJ,qe],fun j x u il iQ=> ?_⟩
  have hj:j<n.toNat*i.size:=by
   have:=(List.getElem?_eq_some_iff.1 iQ).1
   rw[yJ,pL]at this;exact this
  rw[Rk _ _ _ (by rw[pL];exact hj),pL,List.getElem?_map]at iQ
  rw[Array.getElem?_toList]at il
  have Ir:j%i.size<z.cells.size:=by rw[qe];exact Nat.mod_lt _ hk
  simp only[madeCells,qe]at il
  rw[Array.getElem?_map]at il
  simp only[Array.getElem?_range,hj,if_true,Option.map_some,Option.some.injEq]at il
  rw[getElem!_pos z.cells _ Ir]at il
  rw[Array.getElem?_toList,Array.getElem?_eq_getElem Ir]at iQ
  simp only[Option.map_some,Option.some.injEq]at iQ
  subst il;subst iQ
  exact RV.gS H _ (tC _ (by simp))
 refine .value (v:= .slice (some ⟨w.heap.size,0,none⟩) n.toNat n.toNat) (by simp[execOp,ho,eT,tB,hr]) (Step.new hh _ e _ (fun c hc=> ?_) agp) (.mb _ _ _ _ hk (Nat.le_refl _)) (hK _ hh.me)
 obtain⟨l,hl,hc⟩:=List.mem_flatten.1 hc
 obtain rfl:=(List.mem_replicate.1 hl).2
 obtain⟨x,_,rfl⟩:=List.mem_map.1 hc
 exact Br x
theorem aeL (t t':TypeId) (x y:Operand) (ho:o.op= .call {callee:= .builtin .copy,args:= #[x,y],argTypes:= #[t,t']}) (e:TypeId) (hu:P.underlying t=some (.slice e)) (k:Nat) (hk:(P.info? e).map (·.size)=some k)
  (hx:cd x=true) (hy:cd y=true) (hf:eo H a f) (hh:dv H s w) (hG:G ⟨P,kp⟩ (.Da k x y) f s K):eB P kp o a w H s K:=by
 have hv:=hf.ev x hx
 have fT:=hf.ev y hy
 simp only[G]at hG
 have main: ∀(l off n cap k':Nat) (ys cs:List AV) (vh:Own),RV H (a.eval y) (.sl ys vh)→a.eval x= .slice (some ⟨l,off,none⟩) n cap→k'=k→(∀e∈ys,e.cells.length=k)→s l=some (.cells cs)→off+n*k≤cs.length→
   K (.v (.int .i64 (min ys.length n))) (s.set l (.cells (putAt cs off (flat (ys.take n)))))→eB P kp o a w H s K:=by
  intro l off n cap k' ys cs vh fT dc agq gr dF hle hK
  subst agq
  have agr: ∀e∈ys.take n,e.cells.length=k':=fun e he=>gr e (List.mem_of_mem_take he)
  have ke:(flat (ys.take n)).length=(min ys.length n)*k':=by rw[ny agr,List.length_take,Nat.min_comm]
  have CR:min ys.length n*k'≤n*k':=Nat.mul_le_mul_right _ (by omega)
  have jj: ∃us:Array Value,(Builtin.firstCells k' (min ys.length n) (a.eval y)).run P w= .ok us w∧dJ H us (flat (ys.take n))∧(∀c∈flat (ys.take n),c.one=true)∧(Builtin.lenOf (a.eval y)).run P w= .ok ys.length w:=by
   obtain⟨news,hs,m4,vi,pZ⟩:=fT.src hh gr P
   have hft:flat (ys.take n)=(flat ys).take (n*k'):=((sK n gr).2).symm
   have hlen:(flat ys).length=ys.length*k':=ny gr
   generalize Eu:a.eval y=yv at fT hs
   have Bz:(Builtin.firstCells k' (min ys.length n) yv).run P w= .ok (news.take (min ys.length n*k')).toArray w:=by
    cases fT with
    |jo ad eD ow ha cj=>
     have:news= []:=List.eq_nil_of_length_eq_zero (by rw[m4];simp[flat])
     subst this
     cases ad<;>simp[Builtin.firstCells,loadCells,loadCellsFrom]
    |sl b SH len eD k2 fW xs ow Gj aeM aoQ KP Sb hH hR cj=>
     subst aeM
     have Se: ∀j v,news[j]? =some v→w.cell? ((⟨b,SH,none⟩:Addr).add j)=some v:=by
      intro j v hj
      have qV:j<(flat ys).length:=by rw[←m4];exact(List.getElem?_eq_some_iff.1 hj).1
      have hc:=hs.cells
      by_cases sZ:ys= []
      ·subst sZ;simp[flat]at qV
      have ags:k2=k':=by
       match ys,sZ with
       |y0::r,_=>exact(KP y0 (by simp)).symm.trans (gr y0 (by simp))
      subst ags
      have eG:=run_firstCells_some (P:=P) w k2 ys.length ⟨b,SH,none⟩ ys.length eD ((List.range (ys.length*k2)).map fW) (by simp) (fun j v hv=>by
       have hj:j<ys.length*k2:=by have:=(List.getElem?_eq_some_iff.1 hv).1;simpa using this
       rw[List.getElem?_map,List.getElem?_range hj]at hv
       obtain rfl:fW j=v:=by simpa using hv
       rw[uh];exact hh.ro _ _ _ (hH j hj))
      rw[eG]at hc
      simp only[Result.ok.injEq,and_true]at hc
      have wY:(List.range (ys.length*k2)).map fW=news:=by simpa using congrArg Array.toList hc
      rw[←wY,List.getElem?_map,List.getElem?_range (by omega)]at hj
      obtain rfl:fW j=v:=by simpa using hj
      rw[uh];exact hh.ro _ _ _ (hH j (by omega))
     refine run_firstCells_some (P:=P) w k' (min ys.length n) ⟨b,SH,none⟩ ys.length eD _ ?_ (fun j v hv=>Se j v (by
      rw[List.getElem?_take]at hv
      split at hv
      ·exact hv
      ·cases hv))
     have h1:min ys.length n*k'≤ys.length*k':=Nat.mul_le_mul_right _ (by omega)
     simp;omega
   refine⟨_,Bz,dJ.lD.2 ⟨?_,fun j x u il iQ=> ?_⟩,fun c hc=>pZ c (by rw[hft]at hc;exact List.mem_of_mem_take hc),hs.len⟩
   ·have h1:min ys.length n*k'≤ys.length*k':=Nat.mul_le_mul_right _ (by omega)
    simp[ke];omega
   ·have hj:j<min ys.length n*k':=by rw[←ke];exact(List.getElem?_eq_some_iff.1 iQ).1
    rw[hft,List.getElem?_take_of_lt (by omega)]at iQ
    simp only[List.toList_toArray]at il
    rw[List.getElem?_take_of_lt hj]at il
    have:=vi j u iQ
    rw[List.getD_eq_getElem?_getD,il]at this
    exact this
  obtain⟨us,tQ,Dj,db,aeN⟩:=jj
  obtain⟨vs,T,hb,fK,dT⟩:=Step.store hh dF off (flat (ys.take n)) us Dj db (by omega)
  refine .value (v:= .int .i64 (min ys.length n)) ?_ dT (.v _ rfl) hK
  have E3:=run_storeCells_at P l off T us.toList 0 vs w hb (by have:=Dj.1;simp;omega) (Dj.zY db)
  simp only[Nat.add_zero]at E3
  have K8:(storeCells ⟨l,off,none⟩ us.toList).run P w= .ok () (w.setRow l (jW vs off us.toList)):=by rw[E3];rfl
  cases hq:P.info? e with
  |none=>simp[hq]at hk
  |some ii=>
   have hs:ii.size=k':=by simpa[hq] using hk
   have IN:Nat.min ys.length n=min ys.length n:=rfl
   simp[execOp,ho,resolve,invoke,builtin,dc,Builtin.copy_,run_underlying hu,aeN,sizeOf,typeInfo,hq,hs,IN,tQ,K8,goInt]
   omega
 split at hG
 ·rename_i l off n k' ys vh he kB
  rw[he]at hv;rw[kB]at fT
  obtain⟨rfl,gr,hG⟩:=hG
  split at hG
  case h_2=>exact hG.elim
  rename_i cs dF
  generalize dc:a.eval x=xv at hv
  cases hv with
  |gK l off n cap k' jY ft=>exact main l off n cap k' ys cs vh fT dc rfl gr dF hG.1 hG.2
 ·rename_i l n cap k' ys vh he kB
  rw[he]at hv;rw[kB]at fT
  obtain⟨rfl,gr,hG⟩:=hG
  split at hG
  case h_2=>exact hG.elim
  rename_i cs dF
  generalize dc:a.eval x=xv at hv
  cases hv with
  |mb l n cap k' jY ft=>exact main l 0 n cap k' ys cs vh fT dc rfl gr dF (by have:=hG.1;omega) hG.2
 ·exact hG.elim
theorem aeO (neg:Bool) (t:TypeId) (x:Operand) (yt:TypeId) (ho:o.op= .binOp (if neg then .neq else .eql) t x (.const (.slice none 0 0)) yt) (e:TypeId) (hu:P.underlying t=some (.slice e)) (hx:cd x=true) (hf:eo H a f) (hh:dv H s w)
  (hG:G ⟨P,kp⟩ (.wX neg x) f s K):eB P kp o a w H s K:=by
 have hv:=hf.ev x hx
 have hc: ∀v,a.eval (.const v)=v:=fun _=>rfl
 have eG: ∀ad n c,a.eval x= .slice ad n c→(execOp a.eval o).run P w= .ok (.value (.bool (xor neg ad.isNone))) w:=fun ad n c dc=>by
  have k1:=run_equalIn_slice_nil (P:=P) w 9999 t e ad n c hu
  cases neg
  ·simp[execOp,ho,dc,hc,eqGuard,binOp,Op.equal,Op.maxDepth,k1]
  ·simp[execOp,ho,dc,hc,eqGuard,binOp,Op.equal,Op.maxDepth,k1]
 simp only[G]at hG
 split at hG
 case h_3=>exact hG.elim
 case h_2=>
  rename_i l n cap k he
  rw[he]at hv
  generalize dc:a.eval x=xv at hv
  cases hv with
  |mb l n cap k jY ft=>exact .same hh (eG _ n cap dc) (.v _ rfl) (by simpa using hG)
 rename_i xs ow he
 rw[he]at hv
 generalize dc:a.eval x=xv at hv
 cases hv with
 |jo ad cap ow ha cj=>
  have hr:=eG ad 0 cap dc
  cases ow with
  |nil=>simp only[Own.xG]at cj;subst cj;exact .same hh hr (.v _ rfl) (by simpa using hG)
  |buf g c=>exact cj.elim
  |any=>cases ad with
   |none=>exact .same hh hr (.v _ rfl) (by simpa using hG.1 rfl)
   |some ad=>exact .same hh hr (.v _ rfl) (by simpa using hG.2)
  |zero=>cases ad with
   |none=>exact .same hh hr (.v _ rfl) (by simpa using hG.1 rfl)
   |some ad=>exact .same hh hr (.v _ rfl) (by simpa using hG.2)
 |sl b off len cap k fW xs ow hk hlen ft gr db hH hR cj=>
  have hr:=eG _ len cap dc
  cases ow with
  |nil=>exact cj.elim
  |buf g c=>exact .same hh hr (.v _ rfl) (by simpa using hG)
  |any=>exact .same hh hr (.v _ rfl) (by simpa using hG.2)
  |zero=>exact cj.elim
theorem foldl_push: ∀(l:List UInt8) (acc:ByteArray),(l.map fun b=>(b.toNat:Int)).foldl (fun r n=>r.push (UInt8.ofNat n.toNat)) acc=⟨acc.data++l.toArray⟩
 | [],acc=>by cases acc;simp
 |b::l,acc=>by
  rw[List.map_cons,List.foldl_cons,foldl_push l]
  have:UInt8.ofNat ((b.toNat:Int)).toNat=b:=by simp
  rw[this]
  cases acc with
  |mk d=>simp[ByteArray.push]
theorem ac5 (st dt:TypeId) (x:Operand) (ho:o.op= .convert st dt x) (e:TypeId) (hs:P.underlying st=some (.slice e)) (vj:P.underlying e=some (.int .u8)) (hd:P.underlying dt=some .string) (hx:cd x=true) (hf:eo H a f) (hh:dv H s w) (hG:G ⟨P,kp⟩ (.CN x) f s K):eB P kp o a w H s K:=by
 have hv:=hf.ev x hx
 simp only[G]at hG
 split at hG
 case h_2=>exact hG.elim
 rename_i m xs xf
 split at hG
 case h_2=>exact hG.elim
 rename_i l hl
 have qU:=Mx hl
 subst qU
 obtain⟨news,jj,m4,vi,_⟩:=N5 hv hh xf P
 have Se:news=(l.map fun b=>(b.toNat:Int)).map (Value.int .u8):=by
  apply List.ext_getElem?
  intro j
  by_cases hj:j<news.length
  ·have qV:j<l.length:=by rw[m4]at hj;simpa using hj
   have h2:=vi j (bN l[j]) (by simp[qV])
   have h3:news.getD j Go.undef= .int .u8 (l[j].toNat):=by unfold bN at h2;exact h2.jc
   rw[List.getD_eq_getElem?_getD,List.getElem?_eq_getElem hj,Option.getD_some]at h3
   rw[List.getElem?_eq_getElem hj,h3]
   simp[qV]
  ·rw[List.getElem?_eq_none (by omega),List.getElem?_eq_none (by rw[m4]at hj;simp at hj;simp;omega)]
 have FD: ∃ad len cap,a.eval x= .slice ad len cap:=by
  unfold hU at xf
  generalize hax:a.eval x=xv at hv
  generalize hex:ev f x=y at hv xf
  split at xf
  ·cases hv with
   |jo ad cap=>exact⟨_,_,_,rfl⟩
   |sl=>exact⟨_,_,_,rfl⟩
  ·cases hv;exact⟨_,_,_,rfl⟩
  ·cases hv;exact⟨_,_,_,rfl⟩
  ·cases xf
 obtain⟨ad,len,cap,eT⟩:=FD
 have hlen:len=m:=by
  have h1:=jj.len
  rw[eT]at h1
  have h2:(Builtin.lenOf (.slice ad len cap)).run P w= .ok len w:=rfl
  rw[h2]at h1
  simpa using h1
 subst hlen
 have Bz:=jj.cells
 rw[eT]at Bz
 refine .same hh (v:= .string ⟨l.toArray⟩) ?_ (.v _ rfl) hG
 have eG:(convert st dt (.slice ad len cap)).run P w= .ok (.string ⟨l.toArray⟩) w:=by
  rw[run_convert_bytes_string w st dt e ad len cap hs vj hd]
  cases ad with
  |none=>
   have h0:news= []:=by
    have h2:(Builtin.firstCells 1 len (.slice none len cap)).run P w= .ok #[] w:=rfl
    rw[h2]at Bz
    simpa using Bz
   have pL:l= []:=by
    rw[h0]at m4;exact List.eq_nil_of_length_eq_zero (by simpa using m4.symm)
   subst pL
   simp[Conv.bytesToString]
   try rfl
  |some ad=>
   have h2:(Builtin.firstCells 1 len (.slice (some ad) len cap)).run P w=(loadCells ad (len*1)).run P w:=rfl
   rw[h2,Nat.mul_one,Se]at Bz
   rw[run_bytesToString w ad len cap _ Bz,foldl_push]
   simp
   try rfl
 simp[execOp,ho,eT,eG]
theorem aeP (st dt:TypeId) (x:Operand) (ho:o.op= .convert st dt x) (e:TypeId) (hs:P.underlying st=some .string) (hd:P.underlying dt=some (.slice e)) (vj:P.underlying e=some (.int .u8)) (hx:cd x=true) (hf:eo H a f) (hh:dv H s w) (hG:G ⟨P,kp⟩ (.Ld x) f s K):eB P kp o a w H s K:=by
 have hv:=hf.ev x hx
 simp only[G]at hG
 split at hG
 case h_2=>exact hG.elim
 rename_i t he
 rw[he]at hv
 have eT:=hv.jc
 have hr:=run_bytes_of_string w st dt e t hs hd vj
 have eG:(execOp a.eval o).run P w= .ok (.value (.slice (some ⟨w.heap.size,0,none⟩) t.size (grownCap w t.size 0 e))) (w.drew.alloc (.cells (bytesRow t (grownCap w t.size 0 e)) e ((bytesRow t (grownCap w t.size 0 e)).size,(bytesRow t (grownCap w t.size 0 e)).size+1))):=by
  simp[execOp,ho,eT,hr]
 have ft:=grownCap_ge w t.size 0 e
 generalize grownCap w t.size 0 e=cap at*
 have fK:t.size≤(bytesRow t cap).size:=by
  have:t.data.size=t.size:=rfl
  simp[bytesRow]
  try omega
 have O0: ∀j (hj:j<t.size),(bytesRow t cap)[j]? =some (.int .u8 ((t.data[j]'hj).toNat)):=fun j hj=>by
  have uy:j<t.data.size:=hj
  simp only[bytesRow]
  rw[Array.getElem?_append_left (by simpa using uy),Array.getElem?_map,Array.getElem?_eq_getElem uy]
  rfl
 generalize bytesRow t cap=vs at*
 have st:=Step.write (w':=w.drew.alloc (.cells vs e (vs.size,vs.size+1))) hh.drew w.heap.size t.size vs e s rfl rfl rfl (by simp) (heap_alloc_new w.drew _) (fun b _ hb=>DS w.drew _ b hb) (.inl rfl)
   fK (fun o v hv=>by rw[hh.xH]at hv;cases hv) (fun l o hl hs=>hs)
   (fun o ho=>by rw[hh.me]at ho;cases ho)
 refine .value eG ((Step.drew hh).trans st) ?_ hG
 by_cases h0:t.size=0
 ·have:t.data.toList= []:=by
   apply List.eq_nil_of_length_eq_zero
   rw[Array.length_toList];exact h0
  rw[h0,this]
  exact .jo _ _ _ (fun h=>by cases h) trivial
 ·refine .sl _ _ _ _ 1 (fun j=>vs.getD j undef) _ _ (by omega) ?_ ft (fun e he=> ?_) (fun c hc=> ?_) (fun j hj=> ?_) (fun j u hu=> ?_) trivial
  ·rw[List.length_map,Array.length_toList];rfl
  ·obtain⟨b,_,rfl⟩:=List.mem_map.1 he;rfl
  ·rw[JQ]at hc;obtain⟨b,_,rfl⟩:=List.mem_map.1 hc;rfl
  ·rw[Nat.mul_one]at hj
   rw[Nat.zero_add,PH.Fu _ _ _ _ hj]
   simp[show j<vs.size by omega]
  ·rw[JQ,List.getElem?_map]at hu
   have hj:j<t.size:=by
    rw[Option.map_eq_some_iff]at hu
    obtain⟨b,hb,_⟩:=hu
    have:=(List.getElem?_eq_some_iff.1 hb).1
    rwa[Array.length_toList]at this
   have hjd:j<t.data.size:=hj
   rw[Array.getElem?_toList,Array.getElem?_eq_getElem hjd,Option.map_some,Option.some.injEq]at hu
   subst hu
   rw[Array.getD_eq_getD_getElem?,O0 j hj]
   exact .v _ rfl
end
section
variable {P:Program}{kp:AV→Hp→Prop}{o:Oper}{a:Act}{w:World}{H:PH}{s:Hp}{K:AV→Hp→Prop}{f:Fr}
theorem eo.map (hf:eo H a f) {xs:Array Operand} (cj: ∀x∈xs.toList,cd x=true):dJ H (xs.map a.eval) (xs.toList.map (Go.Av.ev f)):=by
 refine dJ.lD.2 ⟨by simp,fun j x u hx hu=> ?_⟩
 rw[Array.toList_map,List.getElem?_map]at hx
 rw[List.getElem?_map]at hu
 cases hj:xs.toList[j]? with
 |none=>simp[hj]at hx
 |some op=>
  rw[hj]at hx hu
  obtain rfl:a.eval op=x:=by simpa using hx
  obtain rfl:Go.Av.ev f op=u:=by simpa using hu
  exact hf.ev op (cj op (List.mem_of_getElem? hj))
theorem dJ.append {vs ws:Array Value}{us xs:List AV} (h:dJ H vs us) (h2:dJ H ws xs):dJ H (vs++ws) (us++xs):=by
 rw[dJ.lD]at h h2⊢
 refine⟨by rw[Array.toList_append,List.length_append,List.length_append,h.1,h2.1],fun j x u hx hu=> ?_⟩
 rw[Array.toList_append,List.getElem?_append]at hx
 rw[List.getElem?_append,←h.1]at hu
 split at hx
 ·rename_i hj;rw[if_pos hj]at hu;exact h.2 j x u hx hu
 ·rename_i hj;rw[if_neg hj]at hu;exact h2.2 _ x u hx hu
theorem aeQ (fn:FuncId) (first cap:Array Operand) (ho:o.op= .makeFunc (.func fn) first cap) (h1: ∀x∈first.toList,cd x=true) (h2: ∀x∈cap.toList,cd x=true) (hf:eo H a f) (hh:dv H s w)
  (hG:G ⟨P,kp⟩ (.eU fn first.toList cap.toList) f s K):eB P kp o a w H s K:=by
 have a1:=hf.map h1
 have a2:=hf.map h2
 refine .same hh (v:= .func (.func fn) (first.map a.eval) (cap.map a.eval)) ?_ (.eU fn _ _ _ _ a1.1 a1.2 a2.1 a2.2) hG
 simp only[execOp,ho,Instr.makeFunc,Sem.run_bind,Sem.run_pure,Result.andThen_ok]
theorem a9c (x:Operand) (args:Array Operand) (Dd:Array TypeId) (ho:o.op= .call {callee:= .value x,args,argTypes:=Dd}) (hx:cd x=true)
  (cj: ∀x∈args.toList,cd x=true) (hf:eo H a f) (hh:dv H s w) (hG:G ⟨P,kp⟩ (.rn x args.toList) f s K):eB P kp o a w H s K:=by
 intro Q hQ
 have hv:=hf.ev x hx
 simp only[G]at hG
 split at hG
 case h_2=>exact hG.elim
 rename_i g ds cs he
 obtain⟨z5,hG⟩:=hG
 obtain⟨fn,vU,hb,De⟩: ∃fn,P.funcs[g]? =some fn∧fn.body.isSome∧fn.name≠ "runtime.NumGoroutine" :=by
  unfold A5 at z5
  split at z5
  ·rename_i fn vU
   simp only[Bool.and_eq_true,bne_iff_ne,ne_eq]at z5
   exact⟨fn,vU,z5.1,z5.2⟩
  ·cases z5
 rw[he]at hv
 generalize dc:a.eval x=xv at hv
 cases hv with
 |eU g ws vs ds cs hw hW hl hR=>
  have Sa:dJ H (ws++args.map a.eval++vs) (ds++args.toList.map (ev f)++cs):=dJ.append (dJ.append ⟨hw,hW⟩ (hf.map cj)) ⟨hl,hR⟩
  have hc:=hG _ w H Sa hh
  have eG:(execOp a.eval o).run P w= .ok (.enter g (ws++args.map a.eval++vs)) w:=by
   cases wZ:fn.body with
   |none=>simp[wZ]at hb
   |some c=>simp[execOp,ho,resolve,dc,Deferred.ofValue,invoke,callFunc,vU,De,wZ]
  unfold Oper.wp
  rw[eG]
  exact hc.mono fun e w' hh=>by
   rcases hh with ⟨v,r,H',s',he,dT,hv,hR⟩|⟨v,r,H',s',he,dT,hv,hR⟩
   ·subst he
    exact⟨v,H',s',r,rfl,dT,hv,hR⟩
   ·subst he
    exact hQ _ _ _ _ _ dT hv hR
theorem aeR (t:TypeId) (x:Operand) (ho:o.op= .makeInterface t x) (d:TypeDesc) (hu:P.underlying t=some d) (hd: ∀m,d≠ .interface m) (hx:cd x=true) (hf:eo H a f) (hh:dv H s w) (hG:G ⟨P,kp⟩ (.Db t x) f s K):eB P kp o a w H s K:=by
 refine .same hh (v:= .iface t (a.eval x)) ?_ (.iface t _ _ (hf.ev x hx)) hG
 cases d<;>first
  |exact absurd rfl (hd _)
  |simp[execOp,ho,Instr.makeInterface,run_underlying hu]
theorem ac6 (x:Operand) (t0 t:TypeId) (ok:Bool) (ho:o.op= .typeAssert x t0 t ok) (d:TypeDesc) (hu:P.underlying t=some d) (hd: ∀m,d≠ .interface m) (i:TypeInfo) (hi:P.info? t=some i) (z:Value) (hz:i.zero=some z) (hzo:E1 z=true) (hx:cd x=true) (hf:eo H a f) (hh:dv H s w)
  (hG:G ⟨P,kp⟩ (.Ej t ok (ofConst z) x) f s K):eB P kp o a w H s K:=by
 have hv:=hf.ev x hx
 simp only[G]at hG
 have Is: ∀(v:Value) (r:AV) (b:Bool),RV H v r→RV H (.tuple #[v,.bool b]) (.dr [r,.v (.bool b)]):=fun v r b h=> .dr _ _ rfl (fun j u hu=>by
  match j,hu with
  |0,hu=>simp at hu;subst hu;exact h
  |1,hu=>simp at hu;subst hu;exact .v _ rfl
  |j+2,hu=>simp at hu)
 split at hG
 ·rename_i d' y he
  rw[he]at hv
  generalize dc:a.eval x=xv at hv
  cases hv with
  |iface d' xv y h=>
   by_cases Oz:d'=t
   ·rw[if_pos Oz]at hG
    subst Oz
    cases ok with
    |true=>
     refine .same hh (v:= .tuple #[xv,.bool true]) ?_ (Is _ _ _ h) (by simpa using hG)
     cases d<;>first
      |exact absurd rfl (hd _)
      |simp[execOp,ho,dc,Instr.typeAssert,run_underlying hu]
    |false=>
     refine .same hh (v:=xv) ?_ h (by simpa using hG)
     cases d<;>first
      |exact absurd rfl (hd _)
      |simp[execOp,ho,dc,Instr.typeAssert,run_underlying hu]
   ·rw[if_neg Oz]at hG
    obtain⟨rfl,hG⟩:=hG
    refine .same hh (v:= .tuple #[z,.bool false]) ?_ (Is _ _ _ (RV.ofConst H z hzo)) hG
    cases d<;>first
     |exact absurd rfl (hd _)
     |simp[execOp,ho,dc,Instr.typeAssert,run_underlying hu,Oz,zeroValue,typeInfo,hi,hz]
 ·rename_i he
  rw[he]at hv
  have dc:=hv.jc
  obtain⟨rfl,hG⟩:=hG
  refine .same hh (v:= .tuple #[z,.bool false]) ?_ (Is _ _ _ (RV.ofConst H z hzo)) hG
  cases d<;>first
   |exact absurd rfl (hd _)
   |simp[execOp,ho,dc,Instr.typeAssert,run_underlying hu,zeroValue,typeInfo,hi,hz]
 ·exact hG.elim
theorem Cu {t:TypeId}{x y:Value}{b:Bool} (h: ∀n,(Op.equalIn (n+1) t x y).run P w= .ok b w):(Op.equalIn 10000 t x y).run P w= .ok b w:=h 9999
theorem aeS (neg:Bool) (t:TypeId) (x:Operand) (yt:TypeId) (ho:o.op= .binOp (if neg then .neq else .eql) t x (.const .nilIface) yt) (ms:Array (String×TypeId)) (hu:P.underlying t=some (.interface ms)) (hx:cd x=true) (hf:eo H a f) (hh:dv H s w) (hG:G ⟨P,kp⟩ (.Lg neg x) f s K):eB P kp o a w H s K:=by
 have hv:=hf.ev x hx
 simp only[G]at hG
 have e1: ∀(d:TypeId) (v:Value),(Op.equalIn 10000 t (.iface d v) .nilIface).run P w= .ok false w:=fun d v=>Cu (fun n=>by simp[Op.equalIn,run_underlying hu])
 have e2:(Op.equalIn 10000 t .nilIface .nilIface).run P w= .ok true w:=Cu (fun n=>by simp[Op.equalIn,run_underlying hu])
 have hc:a.eval (.const .nilIface)= .nilIface:=rfl
 split at hG
 ·rename_i d y he
  rw[he]at hv
  generalize dc:a.eval x=xv at hv
  cases hv with
  |iface d xv y h=>
   cases neg
   ·exact .same hh (v:= .bool false) (by simp[execOp,ho,dc,hc,eqGuard,binOp,Op.equal,Op.maxDepth,e1]) (.v _ rfl) hG
   ·exact .same hh (v:= .bool true) (by simp[execOp,ho,dc,hc,eqGuard,binOp,Op.equal,Op.maxDepth,e1]) (.v _ rfl) hG
 ·rename_i he
  rw[he]at hv
  have dc:=hv.jc
  cases neg
  ·exact .same hh (v:= .bool true) (by simp[execOp,ho,dc,hc,eqGuard,binOp,Op.equal,Op.maxDepth,e2]) (.v _ rfl) (by simpa using hG)
  ·exact .same hh (v:= .bool false) (by simp[execOp,ho,dc,hc,eqGuard,binOp,Op.equal,Op.maxDepth,e2]) (.v _ rfl) (by simpa using hG)
 ·exact hG.elim
theorem ac7 (neg:Bool) (t:TypeId) (x:Operand) (yt:TypeId) (ho:o.op= .binOp (if neg then .neq else .eql) t x (.const .nilFunc) yt) (a1 a2:Array TypeId) (a3:Bool) (hu:P.underlying t=some (.func a1 a2 a3)) (hx:cd x=true) (hf:eo H a f) (hh:dv H s w) (hG:G ⟨P,kp⟩ (.KK neg x) f s K):eB P kp o a w H s K:=by
 have hv:=hf.ev x hx
 simp only[G]at hG
 have e1: ∀(g:Fn) (v1 v2:Array Value),(Op.equalIn 10000 t (.func g v1 v2) .nilFunc).run P w= .ok false w:=fun g v1 v2=>Cu (fun n=>by simp[Op.equalIn,run_underlying hu])
 have e2:(Op.equalIn 10000 t .nilFunc .nilFunc).run P w= .ok true w:=Cu (fun n=>by simp[Op.equalIn,run_underlying hu])
 have hc:a.eval (.const .nilFunc)= .nilFunc:=rfl
 split at hG
 ·rename_i g ds cs he
  rw[he]at hv
  generalize dc:a.eval x=xv at hv
  cases hv with
  |eU g ws vs ds cs hw hW hl hR=>
   cases neg
   ·exact .same hh (v:= .bool false) (by simp[execOp,ho,dc,hc,eqGuard,binOp,Op.equal,Op.maxDepth,e1]) (.v _ rfl) hG
   ·exact .same hh (v:= .bool true) (by simp[execOp,ho,dc,hc,eqGuard,binOp,Op.equal,Op.maxDepth,e1]) (.v _ rfl) hG
 ·rename_i he
  rw[he]at hv
  have dc:=hv.jc
  cases neg
  ·exact .same hh (v:= .bool true) (by simp[execOp,ho,dc,hc,eqGuard,binOp,Op.equal,Op.maxDepth,e2]) (.v _ rfl) (by simpa using hG)
  ·exact .same hh (v:= .bool false) (by simp[execOp,ho,dc,hc,eqGuard,binOp,Op.equal,Op.maxDepth,e2]) (.v _ rfl) (by simpa using hG)
 ·exact hG.elim
theorem WU {l:Nat} (hh:dv H s w) (h:zZ s l=true): ∃vs T,w.heap[l]? =some (.cells vs T (0,0)):=by
 unfold zZ at h
 split at h
 ·rename_i cs hs;obtain⟨_,vs,T,hb,_⟩:=hh.ob l _ hs;exact⟨vs,T,hb⟩
 ·rename_i T cs hs;obtain⟨_,vs,hb,_⟩:=hh.ob l _ hs;exact⟨vs,T,hb⟩
 ·cases h
theorem ac8 (neg:Bool) (t:TypeId) (x y:Operand) (yt:TypeId) (ho:o.op= .binOp (if neg then .neq else .eql) t x y yt) (e:TypeId) (hu:P.underlying t=some (.pointer e)) (i:TypeInfo) (hi:P.info? e=some i) (Dg:i.size≠0) (hx:cd x=true) (hy:cd y=true) (hf:eo H a f) (hh:dv H s w)
  (hG:G ⟨P,kp⟩ (.CP neg x y) f s K):eB P kp o a w H s K:=by
 have hv:=hf.ev x hx
 have fT:=hf.ev y hy
 simp only[G]at hG
 have fin: ∀(p q:Option Addr) (b:Bool),a.eval x= .pointer p→a.eval y= .pointer q→(Op.equalIn 10000 t (.pointer p) (.pointer q)).run P w= .ok b w→K (.v (.bool (xor neg b))) s→eB P kp o a w H s K:=by
  intro p q b h1 h2 hb hK
  cases neg
  ·exact .same hh (v:= .bool b) (by simp[execOp,ho,h1,h2,eqGuard,binOp,Op.equal,Op.maxDepth,hb]) (.v _ rfl) (by simpa using hK)
  ·exact .same hh (v:= .bool (!b)) (by simp[execOp,ho,h1,h2,eqGuard,binOp,Op.equal,Op.maxDepth,hb]) (.v _ rfl) (by simpa using hK)
 split at hG
 ·rename_i l off he kB
  rw[he]at hv;rw[kB]at fT
  exact fin _ _ false hv.sL fT.jc (Cu (fun n=>by simp[Op.equalIn,run_underlying hu])) (by simpa using hG)
 ·rename_i l off he kB
  rw[he]at hv;rw[kB]at fT
  exact fin _ _ false hv.jc fT.sL (Cu (fun n=>by simp[Op.equalIn,run_underlying hu])) (by simpa using hG)
 ·rename_i he kB
  rw[he]at hv;rw[kB]at fT
  exact fin _ _ true hv.jc fT.jc (Cu (fun n=>by simp[Op.equalIn,run_underlying hu])) (by simpa using hG)
 ·rename_i l o' l' o'' he kB
  rw[he]at hv;rw[kB]at fT
  obtain⟨⟨c1,c2⟩,hK⟩:=hG
  obtain⟨vs,T,hb⟩:=WU hh c1
  obtain⟨jr,T',qg⟩:=WU hh c2
  refine fin _ _ _ hv.sL fT.sL ?_ hK
  have zx:(sizeOf e).run P w= .ok i.size w:=by simp[sizeOf,typeInfo,hi]
  by_cases hc:l=l'∧o'=o''
  ·obtain⟨rfl,rfl⟩:=hc
   exact Cu (fun n=>by simp[Op.equalIn,run_underlying hu,zx,Dg,run_sameAddr_same])
  ·have bI:(⟨l,o',none⟩:Addr)≠⟨l',o'',none⟩:=fun h=>hc (by simpa using h)
   have:=run_sameAddr_other (P:=P) (w:=w) bI hb qg
   exact Cu (fun n=>by simp[Op.equalIn,run_underlying hu,zx,Dg,this,hc])
 ·exact hG.elim
theorem aeT (x:Operand) (ho:o.op= .panic x) (hx:cd x=true) (hf:eo H a f) (hh:dv H s w) (hG:G ⟨P,kp⟩ (.zp x) f s K):eB P kp o a w H s K:=by
 intro Q hQ
 have hv:=hf.ev x hx
 simp only[G]at hG
 split at hG
 case h_2=>exact hG.elim
 rename_i t y he
 rw[he]at hv
 have hv0:=hv
 generalize dc:a.eval x=xv at hv hv0
 cases hv with
 |iface t xv y h=>
  have eG:(execOp a.eval o).run P w= .halt (.panic (.iface t xv)) w:=by
   simp[execOp,ho,dc,run_panic_iface]
  unfold Oper.wp
  rw[eG]
  exact hQ _ _ _ _ _ (.refl hh) hv0 hG
theorem ac9 (t:TypeId) (x:Operand) (ho:o.op= .range t x) (hu:P.underlying t=some .string) (hx:cd x=true) (hf:eo H a f) (hh:dv H s w) (hG:G ⟨P,kp⟩ (.Ag x) f s K):eB P kp o a w H s K:=by
 have hv:=hf.ev x hx
 simp only[G]at hG
 split at hG
 case h_2=>exact hG.elim
 rename_i str he
 rw[he]at hv
 have dc:=hv.jc
 refine .value (v:= .pointer (some ⟨w.heap.size,0,none⟩)) (w':=w.alloc (.stringIter str 0)) ?_ (Step.Yc hh _ (.it str 0) (heap_alloc_new w _)) (.ptr _ _) (hG _ hh.me)
 simp[execOp,ho,dc,Instr.range,run_underlying hu]
theorem aca (x:Operand) (ho:o.op= .next x true) (hx:cd x=true) (hf:eo H a f) (hh:dv H s w) (hG:G ⟨P,kp⟩ (.Ek x) f s K):eB P kp o a w H s K:=by
 have hv:=hf.ev x hx
 simp only[G]at hG
 split at hG
 case h_2=>exact hG.elim
 rename_i l off he
 rw[he]at hv
 obtain⟨rfl,hG⟩:=hG
 have dc:=hv.sL
 split at hG
 case h_2=>exact hG.elim
 rename_i t pos hs
 have hb:w.heap[l]? =some (.stringIter t pos):=hh.ob l _ hs
 have aW:l<w.heap.size:=(Array.getElem?_eq_some_iff.1 hb).1
 by_cases hp:pos<t.size
 ·rw[if_pos hp]at hG
  have dT:=Step.N4 hh (o':= .stringIter t (pos+(Utf8.decode t pos).2)) (ob:= .it t (pos+(Utf8.decode t pos).2)) (by simp[hs]) hb (fun c e f h=>by cases h) (by
   show(w.heap.setIfInBounds l _)[l]? = _
   exact Array.getElem?_setIfInBounds_self_of_lt aW)
  refine .value (v:= .tuple #[.bool true,.int .i64 pos,.int .i32 (Utf8.decode t pos).1]) ?_ dT (.dr _ _ rfl (fun j u hu=> ?_)) hG
  ·have e1:(getObj l).run P w= .ok (.stringIter t pos) w:=by simp[getObj,Sem.run,hb]
   have e2:(setObj l (.stringIter t (pos+(Utf8.decode t pos).2))).run P w= .ok () {w with heap:=w.heap.setIfInBounds l (.stringIter t (pos+(Utf8.decode t pos).2))}:=by simp[setObj,Sem.run,hb]
   simp[execOp,ho,dc,Instr.next,e1,hp,e2,goInt]
  ·match j,hu with
   |0,hu=>simp at hu;subst hu;exact .v _ rfl
   |1,hu=>simp at hu;subst hu;exact .v _ rfl
   |2,hu=>simp at hu;subst hu;exact .v _ rfl
   |j+3,hu=>simp at hu
 ·rw[if_neg hp]at hG
  refine .same hh (v:= .tuple #[.bool false]) ?_ (.dr _ _ rfl (fun j u hu=> ?_)) hG
  ·have e1:(getObj l).run P w= .ok (.stringIter t pos) w:=by simp[getObj,Sem.run,hb]
   simp[execOp,ho,dc,Instr.next,e1,hp]
  ·match j,hu with
   |0,hu=>simp at hu;subst hu;exact .v _ rfl
   |j+1,hu=>simp at hu
theorem a7v (T:TypeId) (ho:o.op= .alloc T) (i:TypeInfo) (hi:P.info? T=some i) (z:Value) (hz:i.zero=some z) (db: ∀x∈z.cells.toList,x.oneCell'=true) (hh:dv H s w)
  (hG:G ⟨P,kp⟩ (.A4 T (z.cells.toList.map gS)) f s K):eB P kp o a w H s K:=by
 refine .value (v:= .pointer (some ⟨w.heap.size,0,none⟩)) (w':=w.alloc (.cells z.cells T)) ?_ (Step.a0M hh z.cells T (z.cells.toList.map gS) (fun c hc=>by obtain⟨x,_,rfl⟩:=List.mem_map.1 hc;exact Br x) (dJ.CC H _ db))
  (.ptr _ _) (hG _ hh.me)
 simp[execOp,ho,Instr.alloc,zeroValue,typeInfo,hi,hz,newVar,newRow]
theorem aeU (st dt:TypeId) (x:Operand) (ho:o.op= .convert st dt x) (e:TypeId) (hs:P.underlying st=some (.pointer e)) (hd:P.underlying dt=some .unsafePointer) (j:TypeInfo) (hj:P.info? e=some j) (TD:j.size≠0) (hx:cd x=true) (hf:eo H a f) (hh:dv H s w) (hG:G ⟨P,kp⟩ (.BT x) f s K):eB P kp o a w H s K:=by
 have hv:=hf.ev x hx
 simp only[G]at hG
 split at hG
 case h_2=>exact hG.elim
 rename_i l off he
 rw[he]at hv
 have dc:=hv.sL
 split at hG
 case h_2=>exact hG.elim
 rename_i cs dF
 obtain⟨aW,hG⟩:=hG
 obtain⟨_,vs,T,fz,hb,hr⟩:=hh.read dF
 have:=Lib.run_to_unsafe (P:=P) w (src:=st) (dst:=dt) (e:=T) (cells:=vs.size) ⟨l,off,none⟩ hs hd hj TD (by simp[World.shape?,hb]) (by rw[hr.1];exact aW)
 exact .same hh (v:= .pointer (some ⟨l,off,none⟩)) (by simp[execOp,ho,dc,this]) (.ptr _ _) hG
theorem aeV (st dt:TypeId) (x:Operand) (ho:o.op= .convert st dt x) (u:TypeId) (hs:P.underlying st=some .unsafePointer) (hd:P.underlying dt=some (.pointer u)) (j:TypeInfo) (hj:P.info? u=some j) (n:Nat) (hl:liesAt P P.depth u (n/P.cellsOf u) 0 u 1=true) (hx:cd x=true) (hf:eo H a f) (hh:dv H s w) (hG:G ⟨P,kp⟩ (.BU u n x) f s K):eB P kp o a w H s K:=by
 have hv:=hf.ev x hx
 simp only[G]at hG
 split at hG
 case h_2=>exact hG.elim
 rename_i l off he
 rw[he]at hv
 obtain⟨rfl,hG⟩:=hG
 have dc:=hv.sL
 split at hG
 case h_2=>exact hG.elim
 rename_i T cs dF
 obtain⟨rfl,rfl,hG⟩:=hG
 obtain⟨_,vs,hb,hr,_⟩:=hh.ob l _ dF
 have:=Lib.run_from_unsafe (P:=P) w (src:=st) (dst:=dt) (e:=T) (cells:=cs.length) ⟨l,0,none⟩ hs hd hj (by simp[World.shape?,hb,hr.1]) hl
 exact .same hh (v:= .pointer (some ⟨l,0,none⟩)) (by simp[execOp,ho,dc,this]) (.ptr _ _) hG
theorem acb (t:TypeId) (x:Operand) (ho:o.op= .call {callee:= .builtin .unsafeSliceData,args:= #[x],argTypes:= #[t]}) (hx:cd x=true) (hf:eo H a f) (hh:dv H s w) (hG:G ⟨P,kp⟩ (.KL x) f s K):eB P kp o a w H s K:=by
 have hv:=hf.ev x hx
 simp only[G]at hG
 split at hG
 ·rename_i xs ow he
  rw[he]at hv
  obtain⟨rfl,rfl,hG⟩:=hG
  generalize dc:a.eval x=xv at hv
  cases hv with
  |jo ad cap ow ha cj=>
   simp only[Own.xG]at cj
   subst cj
   exact .same hh (v:= .pointer none) (by simp[execOp,ho,resolve,dc,invoke,builtin,Lib.run_unsafeSliceData_nil]) (.v _ rfl) hG
  |sl b off len cap k fW xs ow hk hlen ft gr db hH hR cj=>exact cj.elim
 ·rename_i l n cap k he
  rw[he]at hv
  obtain⟨h0,hG⟩:=hG
  generalize dc:a.eval x=xv at hv
  cases hv with
  |mb l n cap k hk ft=>
   exact .same hh (v:= .pointer (some ⟨l,0,none⟩)) (by simp[execOp,ho,resolve,dc,invoke,builtin,Lib.run_unsafeSliceData_row _ _ _ _ _ _ (Nat.pos_iff_ne_zero.1 h0)]) (.ptr _ _) hG
 ·exact hG.elim
theorem acd (pt it:TypeId) (x y:Operand) (ho:o.op= .call {callee:= .builtin .unsafeString,args:= #[x,y],argTypes:= #[pt,it]}) (e:TypeId) (hp:P.underlying pt=some (.pointer e)) (hc:P.cellsOf e=1) (hx:cd x=true) (hy:cd y=true) (hf:eo H a f) (hh:dv H s w) (hG:G ⟨P,kp⟩ (.En e x y) f s K):eB P kp o a w H s K:=by
 have hv:=hf.ev x hx
 have fT:=hf.ev y hy
 simp only[G]at hG
 split at hG
 ·rename_i k n he kB
  rw[he]at hv;rw[kB]at fT
  have dc:=hv.jc;have O1:=fT.jc
  obtain⟨rfl,rfl,hG⟩:=hG
  have hr:=Lib.run_unsafeString_none (P:=P) w pt it o.type none
  have e0:(ByteArray.empty)=⟨#[]⟩:=rfl
  exact .same hh (v:= .string ⟨#[]⟩) (by simp[execOp,ho,resolve,dc,O1,invoke,builtin,hr,e0]) (.v _ rfl) hG
 ·rename_i l off k n he kB
  rw[he]at hv;rw[kB]at fT
  have dc:=hv.sL;have O1:=fT.jc
  obtain⟨rfl,rfl,h0,hG⟩:=hG
  split at hG
  case h_2=>exact hG.elim
  rename_i T cs dF
  obtain⟨rfl,hle,td,hG⟩:=hG
  split at hG
  case h_2=>exact hG.elim
  rename_i bs Df
  obtain⟨_,vs,hb,hr,hn⟩:=hh.ob l _ dF
  have Bz:=Mx Df
  have vX:bs.length=n.toNat:=by
   have:=congrArg List.length Bz
   simp at this;omega
  have qB:=Lib.run_unsafeString_row (P:=P) w pt it o.type T hp hc l vs.size (by simp[World.shape?,hb]) bs (by intro h;subst h;simp at vX;omega) (by rw[hr.1];omega) (by omega) (fun j b hj=>by
   have AD:j<n.toNat:=by rw[←vX];exact(List.getElem?_eq_some_iff.1 hj).1
   have h1:(cs.take n.toNat)[j]? =some (bN b):=by rw[Bz,List.getElem?_map,hj];rfl
   rw[List.getElem?_take_of_lt AD]at h1
   have h2:=hr.2 j _ h1
   have h3:=RV.jc h2
   rw[uh,Nat.zero_add,cell_of_row w l j vs T _ hb]
   have hjv:j<vs.size:=by rw[hr.1];exact(List.getElem?_eq_some_iff.1 h1).1
   rw[Array.getElem?_eq_getElem hjv]
   simpa[hjv] using h3)
  have uB:(n:Int)=(bs.length:Int):=by omega
  have eG:(execOp a.eval o).run P w= .ok (.value (.string ⟨bs.toArray⟩)) (w.freeze ⟨l,0,none⟩ bs.length):=by
   rw[uB]at O1
   simp[execOp,ho,resolve,dc,O1,invoke,builtin,qB]
  refine .value (H':=H) eG ?_ (.v _ rfl) hG
  have BM: ∀b,b≠l→(w.freeze ⟨l,0,none⟩ bs.length).heap[b]? =w.heap[b]? :=fun b IP=>by
   unfold World.freeze
   split
   ·rfl
   ·simp[Array.getElem?_modify,Ne.symm IP]
  have fK:(w.freeze ⟨l,0,none⟩ bs.length).heap.size=w.heap.size:=by
   unfold World.freeze
   split<;>simp
  have IQ:(w.freeze ⟨l,0,none⟩ bs.length).os=w.os∧(w.freeze ⟨l,0,none⟩ bs.length).tape=w.tape∧(w.freeze ⟨l,0,none⟩ bs.length).output=w.output:=by
   unfold World.freeze
   split<;>exact⟨rfl,rfl,rfl⟩
  refine⟨⟨fun b i v TE=> ?_,fun l' ob gX=> ?_⟩,.refl H,IQ.1,IQ.2.1,IQ.2.2,Nat.le_of_eq fK.symm,fun b _ hs=> ?_,fun b qg=> .inl ?_,fun b i qg=> .inl qg,fun b iX _ hs=> ?_⟩
  ·have IP:b≠l:=by rintro rfl;rw[hn]at TE;cases TE
   rw[←hh.ro b i v TE]
   exact World.cell?_of_block (BM b IP)
  ·have bI:l'≠l:=by rintro rfl;rw[Hp.yK]at gX;cases gX
   rw[Hp.pY _ bI]at gX
   exact(hh.ob l' ob gX).kept (.refl H) (BM l' bI) (fun i hi=>hi)
  ·exact BM b (by rintro rfl;rw[dF]at hs;cases hs)
  ·intro zx
   by_cases a0R:b=l
   ·subst a0R;rw[Hp.yK]at qg;exact qg rfl
   ·rw[Hp.pY _ a0R]at qg;exact qg zx
  ·have IP:b≠l:=by rintro rfl;rw[dF]at hs;cases hs
   exact⟨BM b IP,.inr ⟨iX,by rw[Hp.pY _ IP];exact hs⟩⟩
 ·exact hG.elim
theorem ace (st dt:TypeId) (x:Operand) (ho:o.op= .convert st dt x) (e:TypeId) (hs:P.underlying st=some .string) (hd:P.underlying dt=some (.slice e)) (vj:P.underlying e=some (.int .u8)) (hx:cd x=true) (hf:eo H a f) (hh:dv H s w) (hG:G ⟨P,kp⟩ (.Ei x) f s K):eB P kp o a w H s K:=by
 have hv:=hf.ev x hx
 simp only[G]at hG
 split at hG
 case h_2=>exact hG.elim
 rename_i t he
 rw[he]at hv
 have eT:=hv.jc
 obtain⟨aoR,hG⟩:=hG
 have hr:=run_bytes_of_string w st dt e t hs hd vj
 have eG:(execOp a.eval o).run P w= .ok (.value (.slice (some ⟨w.heap.size,0,none⟩) t.size (grownCap w t.size 0 e))) (w.drew.alloc (.cells (bytesRow t (grownCap w t.size 0 e)) e ((bytesRow t (grownCap w t.size 0 e)).size,(bytesRow t (grownCap w t.size 0 e)).size+1))):=by
  simp[execOp,ho,eT,hr]
 have ft:=grownCap_ge w t.size 0 e
 have nS:=grownCap_le_maxLen w t.size 0 e (by unfold maxLen;omega)
 generalize grownCap w t.size 0 e=cap at*
 have db: ∀x∈(bytesRow t cap).toList,x.oneCell'=true:=fun x hx=>by
  simp only[bytesRow,Array.toList_append,Array.toList_map,Array.toList_replicate,List.mem_append,List.mem_map,List.mem_replicate]at hx
  rcases hx with ⟨b,_,rfl⟩|⟨_,rfl⟩<;>rfl
 have TF:dJ H (bytesRow t cap) (t.data.toList.map bN++List.replicate (cap - t.size) (.v (.int .u8 0))):=by
  refine dJ.lD.2 ⟨by simp[bytesRow],fun j x u hx hu=> ?_⟩
  simp only[bytesRow,Array.toList_append,Array.toList_map,Array.toList_replicate]at hx
  rw[List.getElem?_append]at hx hu
  simp only[List.length_map]at hx hu
  split at hx
  ·rename_i hj;rw[if_pos hj]at hu
   rw[List.getElem?_map]at hx hu
   cases hq:t.data.toList[j]? with
   |none=>simp[hq]at hx
   |some b=>
    rw[hq]at hx hu
    obtain rfl:Value.int .u8 (b.toNat:Int)=x:=by simpa using hx
    obtain rfl:bN b=u:=by simpa using hu
    exact .v _ rfl
  ·rename_i hj;rw[if_neg hj]at hu
   rw[List.getElem?_replicate]at hx hu
   split at hx
   ·rename_i h2;rw[if_pos h2]at hu
    obtain rfl:=Option.some.inj hx;obtain rfl:=Option.some.inj hu
    exact .v _ rfl
   ·cases hx
 have st:=Step.write (w':=w.drew.alloc (.cells (bytesRow t cap) e ((bytesRow t cap).size,(bytesRow t cap).size+1))) hh.drew w.heap.size 0 (bytesRow t cap) e (s.set w.heap.size (.sc (t.data.toList.map bN++List.replicate (cap - t.size) (.v (.int .u8 0))))) rfl rfl rfl (by simp) (heap_alloc_new w.drew _) (fun b _ hb=>DS w.drew _ b hb) (.inl rfl)
   (Nat.zero_le _) (fun o v hv=>by rw[hh.xH]at hv;cases hv) (fun l o hl hs=>by rw[Hp.aX _ _ hl]at hs;exact hs)
   (fun o ho=>by
    rw[Hp.bt]at ho;obtain rfl:=Option.some.inj ho
    rw[PH.yL]
    refine⟨fun c hc=> ?_,bytesRow t cap,e,heap_alloc_new w.drew _,TF,hh.xH⟩
    rcases List.mem_append.1 hc with hc|hc
    ·obtain⟨b,_,rfl⟩:=List.mem_map.1 hc;rfl
    ·obtain⟨_,rfl⟩:=List.mem_replicate.1 hc;rfl)
 rw[PH.yL]at st
 exact .value eG ((Step.drew hh).trans st) (.mb _ _ _ _ (by omega) ft) (hG _ cap _ hh.me ft nS (by simp))
end
section
variable {P:Program}
def IS (P:Program) (d:Nat) (t:TypeId) (ks:List CK):Prop:=
 ∀(em:Bool) (D:Nat) (w:World) (xs:Array Value) (off:Nat),pE ks ((xs.toList.drop off).take ks.length)→
  ∃a,(part t xs off).run P w= .ok a w∧(Instr.checkKey em (D+d) t a).run P w= .ok () w
theorem Rl {d:Nat}{t:TypeId}{k:CK}{desc:TypeDesc} (h:P.underlying t=some desc) (hr:desc.isRow=false) (hc: ∀em n x w,k.fit x→(Instr.checkKey em (n+1) t x).run P w= .ok () w):IS P (d+1) t [k]:=by
 intro em D w xs off hx
 obtain⟨x,gW,jG,zu⟩:=Fo hx
 exact⟨x,DY h hr _ _ _ gW w,hc em (D+d) x w jG⟩
theorem a9d {d:Nat}{t:TypeId}{k:IntKind} (h:P.underlying t=some (.int k)):IS P (d+1) t [.int k]:=
 Rl h rfl fun em n x w hx=>by
  cases x<;>first|exact hx.elim|skip
  simp[Instr.checkKey,run_underlying h]
theorem a7w {d:Nat}{t:TypeId} (h:P.underlying t=some .bool):IS P (d+1) t [.bool]:=
 Rl h rfl fun em n x w hx=>by
  cases x<;>first|exact hx.elim|skip
  simp[Instr.checkKey,run_underlying h]
theorem a9e {d:Nat}{t:TypeId} (h:P.underlying t=some .string):IS P (d+1) t [.str]:=
 Rl h rfl fun em n x w hx=>by
  cases x<;>first|exact hx.elim|skip
  simp[Instr.checkKey,run_underlying h]
theorem Qz: ∀(d:Nat) (t:TypeId) (ks:List CK),tA P d t=some ks→P.cellsOf t=ks.length→(P.info? t).isSome→IS P d t ks
 |0,t,ks,h,_,_=>by simp[tA]at h
 |d+1,t,ks,h,fK,dP=>by
  simp only[tA]at h
  cases hu:P.underlying t with
  |none=>simp[hu]at h
  |some desc=>
   simp only[hu]at h
   cases desc<;>simp only[]at h<;>first
    |(cases h;done)
    |skip
   case int k=>obtain rfl:=Option.some.inj h;exact a9d hu
   case bool=>obtain rfl:=Option.some.inj h;exact a7w hu
   case string=>obtain rfl:=Option.some.inj h;exact a9e hu
   case array n e=>
    split at h
    case h_2=>cases h
    rename_i l hl
    split at h
    case isFalse=>cases h
    rename_i hc
    obtain rfl:=Option.some.inj h
    have ih:=Qz d e l hl hc.1 hc.2
    obtain⟨i,hi⟩:=Option.isSome_iff_exists.1 dP
    obtain⟨ie,IK⟩:=Option.isSome_iff_exists.1 hc.2
    have ap0:ie.size=l.length:=by simpa[Program.cellsOf,IK] using hc.1
    have hs:i.size=(List.replicate n l).flatten.length:=by simpa[Program.cellsOf,hi] using fK
    intro em D w xs off hx
    refine⟨_,Bu hu rfl hi xs off w,?_⟩
    rw[show D+(d+1)=(D+d)+1 by omega,Instr.checkKey]
    simp only[Sem.run_bind,run_underlying hu,Result.andThen_ok]
    simp only[Std.Legacy.Range.forIn_eq_forIn_range',Std.Legacy.Range.size,Nat.sub_zero,Nat.add_one_sub_one,Nat.div_one]
    have jB:pE (List.replicate n l).flatten (((xs.extract off (off+i.size)).toList.drop (0*l.length)).take (List.replicate n l).flatten.length):=by
     rw[Nat.zero_mul,List.drop_zero,K2,hs,List.take_take,Nat.min_self];exact hx
    clear hx hs fK h hu
    generalize xs.extract off (off+i.size)=zs at jB⊢
    generalize (0:Nat)=j at jB⊢
    induction n generalizing j with
    |zero=>simp
    |succ n ihn=>
     simp only[List.replicate_succ,List.flatten_cons]at jB
     obtain⟨gW,jG⟩:=Ff jB
     have CR:min l.length (l++(List.replicate n l).flatten).length=l.length:=by simp
     have dm:(l++(List.replicate n l).flatten).length - l.length=(List.replicate n l).flatten.length:=by simp
     rw[List.take_take,CR]at gW
     rw[List.drop_take,List.drop_drop,dm,show j*l.length+l.length=(j+1)*l.length by rw[Nat.add_mul,Nat.one_mul]]at jG
     obtain⟨a,p1,p2⟩:=ih em D w zs (j*l.length) gW
     rw[←hc.1]at p1
     rw[List.range'_succ]
     simp only[List.forIn_cons,Sem.run_bind,run_sizeOf w IK,Result.andThen_ok,p1,p2,Sem.run_pure]
     exact ihn (j+1) jG
   case struct fs=>
    split at h
    case isTrue=>cases h
    obtain⟨i,hi⟩:=Option.isSome_iff_exists.1 dP
    have hs:i.size=ks.length:=by simpa[Program.cellsOf,hi] using fK
    intro em D w xs off hx
    refine⟨_,Bu hu rfl hi xs off w,?_⟩
    rw[show D+(d+1)=(D+d)+1 by omega,Instr.checkKey]
    simp only[Sem.run_bind,run_underlying hu,Result.andThen_ok]
    rw[←Array.forIn_toList]
    have jB:pE ks (((xs.extract off (off+i.size)).toList.drop 0).take ks.length):=by
     rw[List.drop_zero,K2,hs,List.take_take,Nat.min_self];exact hx
    have ih: ∀t l,tA P d t=some l→P.cellsOf t=l.length→(P.info? t).isSome→IS P d t l:=fun t l h1 h2 h3=>Qz d t l h1 h2 h3
    clear hx hs fK hu
    generalize xs.extract off (off+i.size)=zs at jB⊢
    generalize (0:Nat)=o at jB h
    generalize fs.toList=L at h⊢
    induction L generalizing o ks with
    |nil=>simp
    |cons f L ihl=>
     simp only[I8]at h
     split at h
     case isFalse=>cases h
     rename_i hf
     split at h
     case h_2=>cases h
     rename_i l r hl hr
     split at h
     case isFalse=>cases h
     rename_i hc
     obtain rfl:=Option.some.inj h
     obtain⟨gW,jG⟩:=Ff jB
     have CR:min l.length (l++r).length=l.length:=by simp
     have dm:(l++r).length - l.length=r.length:=by simp
     rw[List.take_take,CR]at gW
     rw[List.drop_take,List.drop_drop,dm,←hc.1]at jG
     obtain⟨a,p1,p2⟩:=ih _ _ hl hc.1 hc.2 em D w zs o gW
     rw[←hf.1]at p1
     simp only[List.forIn_cons,Sem.run_bind,hf.2,ne_eq,not_false_eq_true,if_true,Result.andThen_ok,p1,p2,Sem.run_pure]
     exact ihl _ _ jG hr
theorem a4c {k:CK}{x:Value} (h:k.fit x) (n:Nat):Instr.sameBits n x x=true:=by
 cases k<;>cases x<;>first
  |exact h.elim
  |(simp[Instr.sameBits];done)
  |(simp only[Instr.sameBits];exact(Go.MapKept.bytes_beq _ _).2 rfl)
theorem Wb {n:Nat}{vs:Array Value}: ∀ {ks:List CK},pE ks vs.toList→Instr.sameBits (n+1) (.agg vs) (.agg vs)=true:=by
 intro ks h
 simp only[Instr.sameBits,beq_self_eq_true,Bool.true_and]
 rw[List.all_eq_true]
 have: ∀(ks:List CK) (l:List Value),pE ks l→ ∀p∈l.zip l,Instr.sameBits n p.1 p.2=true:=by
  intro ks
  induction ks with
  |nil=>intro l h p hp;cases l with
   |nil=>cases hp
   |cons _ _=>exact h.elim
  |cons k ks ih=>intro l h p hp;cases l with
   |nil=>cases hp
   |cons x l=>
    rcases List.mem_cons.1 hp with rfl|hp
    ·exact a4c h.1 n
    ·exact ih l h.2 p hp
 intro p hp
 exact this ks vs.toList h p hp
def ky (H:PH):List MapEntry→List (AV×AV×Nat)→Prop
 | [],[]=>True
 |e::es,u::us=>Ko H e u∧ky H es us
 | _,_=>False
theorem Bx.list {H:PH}: ∀ {es:List MapEntry}{us:List (AV×AV×Nat)},es.length=us.length→(∀(j:Nat) (e:MapEntry) (u:AV×AV×Nat),es[j]? =some e→us[j]? =some u→Ko H e u)→ky H es us
 | [],[],_,_=>trivial
 |e::es,u::us,hl,h=>⟨h 0 e u rfl rfl,Bx.list (by simpa using hl) fun j e u h1 h2=>h (j+1) e u (by simpa using h1) (by simpa using h2)⟩
 | [],_:: _,hl,_=>by simp at hl
 | _:: _,[],hl,_=>by simp at hl
theorem Xw {H:PH}{d:Nat}{kt:TypeId}{rs:List (Nat×CK)} (hk:tA P d kt=some (uY rs)) (hd:d≤10000) (fK:P.cellsOf kt=(uY rs).length) (dP:(P.info? kt).isSome) {desc:TypeDesc} (hu:P.underlying kt=some desc) (xQ:desc.isRow=true)
  {k:Value}{cs:List AV} (hv:RV H k (.agg cs)) (hf:gZ rs cs) (w:World): ∀(es:List MapEntry) (us:List (AV×AV×Nat)) (i:Nat),ky H es us→(∀u∈us,∃ds,u.1= .agg ds∧gZ rs ds)→
  ∃r,(Instr.findAsking kt k es i).run P w= .ok r w∧(match kx us (.agg cs) i with
   |none=>r=none
   |some (j,v)=> ∃e,r=some (j,e.val)∧i≤j∧es[j - i]? =some e∧e.key=k∧RV H e.val v)
 | [],[],i,_,_=>⟨none,by simp[Instr.findAsking],rfl⟩
 | [],_:: _,_,h,_=>h.elim
 | _:: _,[],_,h,_=>h.elim
 |e::es,u::us,i,h,jB=>by
  obtain⟨⟨h1,h2,h3⟩,h4⟩:=h
  obtain⟨ds,hds,Dc⟩:=jB u (by simp)
  rw[hds]at h1
  cases hv with
  |agg vs _ db hl hR=>
   generalize AH:e.key=ek at h1
   cases h1 with
   |agg ws _ aeC gX Tw=>
    have r1:dJ H vs cs:=⟨hl,hR⟩
    have r2:dJ H ws ds:=⟨gX,Tw⟩
    obtain⟨f1,e1⟩:=DU _ cs vs.toList hf (dJ.lD.1 r1).1 (dJ.lD.1 r1).2
    obtain⟨f2,e2⟩:=DU _ ds ws.toList Dc (dJ.lD.1 r2).1 (dJ.lD.1 r2).2
    have AE:vs.size=(uY rs).length:=by have:=Bq f1;simpa using this
    have TG:ws.size=(uY rs).length:=by have:=Bq f2;simpa using this
    obtain⟨inf,hi⟩:=Option.isSome_iff_exists.1 dP
    have hs:inf.size=(uY rs).length:=by simpa[Program.cellsOf,hi] using fK
    obtain⟨p,q,r,p1,p2,p3,hr⟩:=MD d kt _ hk fK dP (10000 - d) w vs ws 0 (by rw[List.drop_zero,←AE,List.take_of_length_le (by simp)];exact f1) (by rw[List.drop_zero,←TG,List.take_of_length_le (by simp)];exact f2)
    rw[Bu hu xQ hi]at p1 p2
    have ex:vs.extract 0 (0+inf.size)=vs:=by rw[Nat.zero_add,hs,←AE];simp
    have ew:ws.extract 0 (0+inf.size)=ws:=by rw[Nat.zero_add,hs,←TG];simp
    rw[ex]at p1
    rw[ew]at p2
    simp only[Result.ok.injEq,and_true]at p1 p2
    subst p1;subst p2
    rw[show 10000 - d+d=10000 by omega]at p3
    have hEq:(vs=ws)↔r=true:=by
     rw[hr,List.drop_zero,List.drop_zero,←AE,List.take_of_length_le (by simp),List.take_of_length_le (by simp[AE,TG])]
     exact⟨fun h=>by rw[h],fun h=>Array.toList_inj.1 h⟩
    have hA:AA (.agg cs) (.agg ds)=r:=by
     rw[Bool.eq_iff_iff,K7,←hEq,e1,e2]
     constructor
     ·intro h
      have h5:=AV.agg.inj h
      have: ∀a b:List Value,a.map AV.v=b.map AV.v→a=b:=fun a b h=>by
       induction a generalizing b with
       |nil=>cases b with
        |nil=>rfl
        |cons _ _=>cases h
       |cons x a ih=>cases b with
        |nil=>cases h
        |cons y b=>
         obtain⟨h6,h7⟩:=List.cons.inj h
         rw[AV.v.inj h6,ih b h7]
      exact Array.toList_inj.1 (this _ _ h5)
     ·rintro rfl;rfl
    obtain⟨r',zv,qB⟩:=Xw hk hd fK dP hu xQ (.agg vs cs db hl hR) hf w es us (i+1) h4 fun u hu=>jB u (by simp[hu])
    have eG:(Op.equal kt (.agg vs) (.agg ws)).run P w= .ok r w:=p3
    simp only[kx,hds,hA]
    cases r with
    |true=>
     refine⟨some (i,e.val),by simp[Instr.findAsking,AH,eG],?_⟩
     rw[if_pos rfl]
     refine⟨e,rfl,Nat.le_refl _,by simp,?_,h2⟩
     rw[AH,hEq.2 rfl]
    |false=>
     refine⟨r',by simp[Instr.findAsking,AH,eG,zv],?_⟩
     rw[if_neg (by simp)]
     revert qB
     cases kx us (.agg cs) (i+1)with
     |none=>exact id
     |some jv=>
      obtain⟨j,v⟩:=jv
      rintro ⟨e',q1,q2,q3,q4,q5⟩
      refine⟨e',q1,by omega,?_,q4,q5⟩
      rw[show j - i=(j -(i+1))+1 by omega];simpa using q3
end
structure A6 (P:Program) (kt:TypeId) (rs:List (Nat×CK)):Prop where
 flat: ∃d,d≤10000∧tA P d kt=some (uY rs)
 size:P.cellsOf kt=(uY rs).length
 info:(P.info? kt).isSome
 row: ∃desc,P.underlying kt=some desc∧desc.isRow=true∧(match P.underlying kt with|some (.array _ _)|some (.struct _)=>true| _=>false)=true
section
variable {P:Program}{H:PH}{w:World}
theorem A6.check {kt:TypeId}{rs:List (Nat×CK)} (h:A6 P kt rs) {k:Value}{cs:List AV} (hv:RV H k (.agg cs)) (hf:gZ rs cs) (em:Bool) (w:World):(Instr.checkKey em 10000 kt k).run P w= .ok () w:=by
 obtain⟨d,hd,hk⟩:=h.flat
 obtain⟨desc,hu,xQ,_⟩:=h.row
 cases hv with
 |agg vs _ db hl hR=>
  have r1:dJ H vs cs:=⟨hl,hR⟩
  obtain⟨f1,e1⟩:=DU _ cs vs.toList hf (dJ.lD.1 r1).1 (dJ.lD.1 r1).2
  have AE:vs.size=(uY rs).length:=by have:=Bq f1;simpa using this
  obtain⟨inf,hi⟩:=Option.isSome_iff_exists.1 h.info
  have hs:inf.size=(uY rs).length:=by simpa[Program.cellsOf,hi] using h.size
  obtain⟨p,p1,p2⟩:=Qz d kt _ hk h.size h.info em (10000 - d) w vs 0 (by rw[List.drop_zero,←AE,List.take_of_length_le (by simp)];exact f1)
  rw[Bu hu xQ hi]at p1
  have ex:vs.extract 0 (0+inf.size)=vs:=by rw[Nat.zero_add,hs,←AE];simp
  rw[ex]at p1
  simp only[Result.ok.injEq,and_true]at p1
  subst p1
  rwa[show 10000 - d+d=10000 by omega]at p2
theorem A6.find {kt:TypeId}{rs:List (Nat×CK)} (h:A6 P kt rs) {k:Value}{cs:List AV} (hv:RV H k (.agg cs)) (hf:gZ rs cs) (w:World) {es:List MapEntry}{us:List (AV×AV×Nat)} (hE:ky H es us) (jB: ∀u∈us,∃ds,u.1= .agg ds∧gZ rs ds):
  ∃r,(Instr.findKey kt k es).run P w= .ok r w∧(match kx us (.agg cs) 0 with
   |none=>r=none
   |some (j,v)=> ∃e,r=some (j,e.val)∧es[j]? =some e∧e.key=k∧RV H e.val v):=by
 obtain⟨d,hd,hk⟩:=h.flat
 obtain⟨desc,hu,xQ,hw⟩:=h.row
 obtain⟨r,h1,h2⟩:=Xw hk hd h.size h.info hu xQ hv hf w es us 0 hE jB
 refine⟨r,by rw[run_findKey_eq w hw];exact h1,?_⟩
 revert h2
 cases kx us (.agg cs) 0 with
 |none=>exact id
 |some jv=>
  obtain⟨j,v⟩:=jv
  rintro ⟨e,q1,_,q3,q4,q5⟩
  exact⟨e,q1,by simpa using q3,q4,q5⟩
theorem a56 {mt kt et:TypeId}{rs:List (Nat×CK)} (hm:P.underlying mt=some (.map kt et)) (h:A6 P kt rs) {i:TypeInfo} (hi:P.info? et=some i) {z:Value} (hz:i.zero=some z) {k:Value}{cs:List AV} (hv:RV H k (.agg cs)) (hf:gZ rs cs)
  {r:Nat}{es:Array MapEntry}{clock:Nat} (hb:w.heap[r]? =some (.map es clock)) {us:List (AV×AV×Nat)} (hE:ky H es.toList us) (jB: ∀u∈us,∃ds,u.1= .agg ds∧gZ rs ds) (ok:Bool):
  ∃x,(Instr.lookup mt (.map (some r)) k ok).run P w= .ok x w∧(match kx us (.agg cs) 0 with
   |none=>x=if ok then .tuple #[z,.bool false]else z
   |some (_,v)=> ∃y,RV H y v∧x=if ok then .tuple #[y,.bool true]else y):=by
 obtain⟨q,h1,h2⟩:=h.find hv hf w hE jB
 have hc:=h.check hv hf es.isEmpty w
 have Lm:(zeroValue et).run P w= .ok z w:=by simp[zeroValue,typeInfo,hi,hz]
 revert h2
 cases kx us (.agg cs) 0 with
 |none=>
  rintro rfl
  exact⟨_,by simp[Instr.lookup,run_underlying hm,MapKept.run_getObj_map hb,hc,h1,Lm],rfl⟩
 |some jv=>
  obtain⟨j,v⟩:=jv
  rintro ⟨e,rfl,_,_,q5⟩
  exact⟨_,by simp[Instr.lookup,run_underlying hm,MapKept.run_getObj_map hb,hc,h1],e.val,q5,rfl⟩
theorem ky.length: ∀ {es:List MapEntry}{us:List (AV×AV×Nat)},ky H es us→es.length=us.length
 | [],[],_=>rfl
 | _:: _,_:: _,h=>by simp[ky.length h.2]
theorem ky.set: ∀ {es:List MapEntry}{us:List (AV×AV×Nat)}{j:Nat}{e:MapEntry}{k value:Value}{v:AV},ky H es us→es[j]? =some e→e.key=k→RV H value v→
  ky H (es.modify j fun e=> {e with key:=k,val:=value}) (us.modify j fun u=>(u.1,v,u.2.2))
 | [],_,_,_,_,_,_,_,h,_,_=>by simp at h
 | _:: _,[],_,_,_,_,_,h,_,_,_=>h.elim
 |e0::es,u::us,0,e,k,value,v,h,he,hk,hv=>by
  simp at he;subst he
  simp only[List.modify_zero_cons]
  exact⟨⟨by rw[←hk];exact h.1.1,hv,h.1.2.2⟩,h.2⟩
 |e0::es,u::us,j+1,e,k,value,v,h,he,hk,hv=>by
  simp only[List.modify_succ_cons]
  exact⟨h.1,ky.set h.2 (by simpa using he) hk hv⟩
theorem ky.push: ∀ {es:List MapEntry}{us:List (AV×AV×Nat)}{e:MapEntry}{u:AV×AV×Nat},ky H es us→Ko H e u→ky H (es++ [e]) (us++ [u])
 | [],[],_,_,_,h=>⟨h,trivial⟩
 | _:: _,_:: _,_,_,h,h2=>⟨h.1,ky.push h.2 h2⟩
theorem a46 {mt kt et:TypeId}{rs:List (Nat×CK)} (hm:P.underlying mt=some (.map kt et)) (h:A6 P kt rs) {k value:Value}{cs:List AV}{v:AV} (hv:RV H k (.agg cs)) (hf:gZ rs cs) (eT:RV H value v)
  {r:Nat}{es:Array MapEntry}{clock:Nat} (hb:w.heap[r]? =some (.map es clock)) {us:List (AV×AV×Nat)} (hE:ky H es.toList us) (jB: ∀u∈us,∃ds,u.1= .agg ds∧gZ rs ds):
  ∃uC:Array MapEntry,(Instr.mapUpdate mt (.map (some r)) k value).run P w= .ok () {w with heap:=w.heap.setIfInBounds r (.map uC (Af us (.agg cs) v clock).2)}∧ky H uC.toList (Af us (.agg cs) v clock).1:=by
 obtain⟨q,h1,h2⟩:=h.find hv hf w hE jB
 have hc:=h.check hv hf false w
 unfold Af
 revert h2
 cases kx us (.agg cs) 0 with
 |none=>
  rintro rfl
  refine⟨es.push {key:=k,val:=value,born:=clock},?_,?_⟩
  ·simp[Instr.mapUpdate,run_underlying hm,MapKept.run_getObj_map hb,hc,h1,MapKept.run_setObj_map _ hb]
  ·simp only[Array.toList_push]
   exact hE.push ⟨hv,eT,rfl⟩
 |some jv=>
  obtain⟨j,v0⟩:=jv
  rintro ⟨e,rfl,q3,q4,q5⟩
  have Sf:Instr.sameBits 10000 k k=true:=by
   cases hv with
   |agg vs _ db hl hR=>
    have r1:dJ H vs cs:=⟨hl,hR⟩
    obtain⟨f1,e1⟩:=DU _ cs vs.toList hf (dJ.lD.1 r1).1 (dJ.lD.1 r1).2
    have e3:(10000:Nat)=9999+1:=rfl
    rw[e3]
    exact Wb f1
  have I9:(Instr.keyThatStays k k).run P w= .ok k w:=by simp[Instr.keyThatStays,Sf]
  have FN:((es[j]?).map (·.key)).getD k=k:=by
   have:es[j]? =some e:=by rw[←Array.getElem?_toList];exact q3
   rw[this];simpa using q4
  refine⟨es.modify j fun e=> {e with key:=k,val:=value},?_,?_⟩
  ·simp only[Instr.mapUpdate,Sem.run_bind,run_underlying hm,Result.andThen_ok,MapKept.run_getObj_map hb,hc,h1,FN,I9,MapKept.run_setObj_map _ hb]
  ·rw[Array.toList_modify]
   exact hE.set q3 q4 eT
theorem ky.key: ∀ {es:List MapEntry}{us:List (AV×AV×Nat)}{j:Nat}{e:MapEntry}{k:Value},ky H es us→es[j]? =some e→e.key=k→
  ky H (es.modify j fun e=> {e with key:=k}) us∧ ∃u,us[j]? =some u∧e.born=u.2.2
 | [],_,_,_,_,_,h,_=>by simp at h
 | _:: _,[],_,_,_,h,_,_=>h.elim
 |e0::es,u::us,0,e,k,h,he,hk=>by
  simp at he;subst he
  simp only[List.modify_zero_cons]
  exact⟨⟨⟨by rw[←hk];exact h.1.1,h.1.2.1,h.1.2.2⟩,h.2⟩,u,rfl,h.1.2.2⟩
 |e0::es,u::us,j+1,e,k,h,he,hk=>by
  simp only[List.modify_succ_cons]
  obtain⟨h1,u',h2,h3⟩:=ky.key h.2 (by simpa using he) hk
  exact⟨⟨h.1,h1⟩,u',by simpa using h2,h3⟩
theorem a4d {mt kt et:TypeId}{rs:List (Nat×CK)} (hm:P.underlying mt=some (.map kt et)) (h:A6 P kt rs) {i:TypeInfo} (hi:P.info? et=some i) {z:Value} (hz:i.zero=some z) {za:AV} (Gk:RV H z za) {k:Value}{cs:List AV} (hv:RV H k (.agg cs)) (hf:gZ rs cs)
  {r:Nat}{es:Array MapEntry}{clock:Nat} (hb:w.heap[r]? =some (.map es clock)) {us:List (AV×AV×Nat)} (hE:ky H es.toList us) (jB: ∀u∈us,∃ds,u.1= .agg ds∧gZ rs ds):
  ∃(uC:Array MapEntry) (v:Value),(Instr.mapEntry mt (.map (some r)) k).run P w= .ok (.tuple #[v,goInt (uu us (.agg cs) za clock).2.1]) {w with heap:=w.heap.setIfInBounds r (.map uC (uu us (.agg cs) za clock).2.2.2)}∧
   RV H v (uu us (.agg cs) za clock).1∧ky H uC.toList (uu us (.agg cs) za clock).2.2.1:=by
 obtain⟨q,h1,h2⟩:=h.find hv hf w hE jB
 have hc:=h.check hv hf false w
 have Lm:(zeroValue et).run P w= .ok z w:=by simp[zeroValue,typeInfo,hi,hz]
 unfold uu
 revert h2
 cases kx us (.agg cs) 0 with
 |none=>
  rintro rfl
  refine⟨es.push {key:=k,val:=z,born:=clock},z,?_,Gk,?_⟩
  ·simp[Instr.mapEntry,run_underlying hm,MapKept.run_getObj_map hb,hc,h1,Lm,MapKept.run_setObj_map _ hb]
  ·simp only[Array.toList_push]
   exact hE.push ⟨hv,Gk,rfl⟩
 |some jv=>
  obtain⟨j,v0⟩:=jv
  rintro ⟨e,rfl,q3,q4,q5⟩
  have Sf:Instr.sameBits 10000 k k=true:=by
   cases hv with
   |agg vs _ db hl hR=>
    have r1:dJ H vs cs:=⟨hl,hR⟩
    obtain⟨f1,e1⟩:=DU _ cs vs.toList hf (dJ.lD.1 r1).1 (dJ.lD.1 r1).2
    have e3:(10000:Nat)=9999+1:=rfl
    rw[e3]
    exact Wb f1
  have I9:(Instr.keyThatStays k k).run P w= .ok k w:=by simp[Instr.keyThatStays,Sf]
  have hej:es[j]? =some e:=by rw[←Array.getElem?_toList];exact q3
  have FN:((es[j]?).map (·.key)).getD k=k:=by rw[hej];simpa using q4
  obtain⟨g1,u,g2,g3⟩:=hE.key q3 q4
  refine⟨es.modify j fun e=> {e with key:=k},e.val,?_,q5,?_⟩
  ·have aeW:((es[j]?).map (fun x=>((x.born:Nat):Int))).getD 0=((((us[j]?).map (·.2.2)).getD 0:Nat):Int):=by rw[hej,g2];simp[g3]
   simp only[Instr.mapEntry,Sem.run_bind,run_underlying hm,Result.andThen_ok,MapKept.run_getObj_map hb,hc,h1,FN,I9,MapKept.run_setObj_map _ hb,Sem.run_pure,aeW]
  ·rw[Array.toList_modify]
   exact g1
theorem ky.born: ∀ {es:List MapEntry}{us:List (AV×AV×Nat)} (b:Int),ky H es us→es.findIdx? (fun e=>(e.born:Int)==b)=FC us b
 | [],[],_,_=>rfl
 |e::es,u::us,b,h=>by
  have h1:e.born=u.2.2:=h.1.2.2
  have h2:=ky.born b h.2
  simp only[FC]at h2⊢
  rw[List.findIdx?_cons,List.findIdx?_cons,h1,h2]
theorem ky.val: ∀ {es:List MapEntry}{us:List (AV×AV×Nat)} (j:Nat) {value:Value}{v:AV},ky H es us→RV H value v→
  ky H (es.modify j fun e=> {e with val:=value}) (us.modify j fun u=>(u.1,v,u.2.2))
 | [],[],_,_,_,h,_=>by simpa using h
 |e0::es,u::us,0,value,v,h,hv=>by
  simp only[List.modify_zero_cons]
  exact⟨⟨h.1.1,hv,h.1.2.2⟩,h.2⟩
 |e0::es,u::us,j+1,value,v,h,hv=>by
  simp only[List.modify_succ_cons]
  exact⟨h.1,ky.val j h.2 hv⟩
theorem a3X {mt:TypeId}{value:Value}{v:AV} (eT:RV H value v) {kd:IntKind}{b:Int}{j:Nat}
  {r:Nat}{es:Array MapEntry}{clock:Nat} (hb:w.heap[r]? =some (.map es clock)) {us:List (AV×AV×Nat)} (hE:ky H es.toList us) (hj:FC us b=some j):
  ∃uC:Array MapEntry,(Instr.entryStore mt (.map (some r)) (.int kd b) value).run P w= .ok () {w with heap:=w.heap.setIfInBounds r (.map uC clock)}∧ky H uC.toList (us.modify j fun u=>(u.1,v,u.2.2)):=by
 have hf:es.findIdx? (fun e=>(e.born:Int)==b)=some j:=by
  have e:=List.findIdx?_toArray (fun e:MapEntry=>(e.born:Int)==b) es.toList
  rw[Array.toArray_toList]at e
  rw[e,hE.born b,hj]
 refine⟨es.modify j fun e=> {e with val:=value},?_,?_⟩
 ·simp[Instr.entryStore,MapKept.run_getObj_map hb,asInt,asIntOf,hf,MapKept.run_setObj_map _ hb]
 ·rw[Array.toList_modify]
  exact hE.val j eT
end
section
variable {P:Program}{kp:AV→Hp→Prop}{o:Oper}{a:Act}{f:Fr}{w:World}{H:PH}{s:Hp}{K:AV→Hp→Prop}
theorem RV.N6 {H:PH}{x:Value}{l:Nat} (h:RV H x (.qS l)):x= .map (some l):=by cases h;rfl
theorem RV.a9f {H:PH}{x:Value}{k:IntKind}{n:Int} (h:RV H x (.v (.int k n))):x= .int k n:=by cases h;rfl
theorem aeX (t:TypeId) (ho:o.op= .makeMap t none) (hh:dv H s w) (hG:G ⟨P,kp⟩ .zq f s K):eB P kp o a w H s K:=by
 refine .value (v:= .map (some w.heap.size)) (w':=w.alloc (.map #[] 0)) ?_ (Step.Yc hh _ (.mp [] 0) ⟨#[],heap_alloc_new w _,rfl,fun j e u h=>by simp at h⟩) (.qS _) (hG _ hh.me)
 simp[execOp,ho,Instr.makeMap]
theorem aeY (mt kt et:TypeId) (x k:Operand) (ok:Bool) (ho:o.op= .lookup mt x k ok) {rs:List (Nat×CK)} (hm:P.underlying mt=some (.map kt et)) (hk:A6 P kt rs) {i:TypeInfo} (hi:P.info? et=some i) {z:Value} (hz:i.zero=some z) {za:AV} (Gk:RV H z za)
  (hx:cd x=true) (jY:cd k=true) (hf:eo H a f) (hh:dv H s w) (hG:G ⟨P,kp⟩ (.BR ok rs za x k) f s K):eB P kp o a w H s K:=by
 have hv:=hf.ev x hx
 have Ew:=hf.ev k jY
 simp only[G]at hG
 split at hG
 case h_2=>exact hG.elim
 rename_i l cs he AH
 rw[he]at hv
 rw[AH]at Ew
 have dc:=hv.N6
 split at hG
 case h_2=>exact hG.elim
 rename_i us clock hs
 obtain⟨jB,Kq,hG⟩:=hG
 obtain⟨es,hb,xZ,xg⟩:=hh.ob l _ hs
 have hE:ky H es.toList us:=Bx.list (by simpa using xZ) fun j e u h1 h2=>xg j e u (by simpa using h1) h2
 obtain⟨v,eG,Ak⟩:=a56 (w:=w) hm hk hi hz Ew jB hb hE Kq ok
 have a0u:(execOp a.eval o).run P w= .ok (.value v) w:=by simp[execOp,ho,dc,eG]
 revert hG Ak
 cases kx us (.agg cs) 0 with
 |none=>
  intro hG Ak
  subst Ak
  refine .same hh a0u ?_ hG
  cases ok with
  |false=>exact Gk
  |true=>exact .dr _ _ rfl (fun j u hu=>by
    match j,hu with
    |0,hu=>simp at hu;subst hu;exact Gk
    |1,hu=>simp at hu;subst hu;exact .v _ rfl
    |j+2,hu=>simp at hu)
 |some jv=>
  obtain⟨j,va⟩:=jv
  intro hG Ak
  obtain⟨y,hy,rfl⟩:=Ak
  refine .same hh a0u ?_ hG
  cases ok with
  |false=>exact hy
  |true=>exact .dr _ _ rfl (fun j u hu=>by
    match j,hu with
    |0,hu=>simp at hu;subst hu;exact hy
    |1,hu=>simp at hu;subst hu;exact .v _ rfl
    |j+2,hu=>simp at hu)
theorem ky.ok {H:PH}: ∀ {es:List MapEntry}{us:List (AV×AV×Nat)},ky H es us→ ∀(j:Nat) (e:MapEntry) (u:AV×AV×Nat),es[j]? =some e→us[j]? =some u→Ko H e u
 | _:: _,_:: _,h,0,e,u,he,hu=>by simp at he hu;subst he;subst hu;exact h.1
 | _:: _,_:: _,h,j+1,e,u,he,hu=>ky.ok h.2 j e u (by simpa using he) (by simpa using hu)
 | [],_,_,_,_,_,he,_=>by simp at he
theorem aeZ (mt kt et:TypeId) (x k v:Operand) (ho:o.op= .mapUpdate mt x k v∨o.op= .insert mt x k v) {rs:List (Nat×CK)} (hm:P.underlying mt=some (.map kt et)) (hk:A6 P kt rs)
  (hx:cd x=true) (jY:cd k=true) (TH:cd v=true) (hf:eo H a f) (hh:dv H s w) (hG:G ⟨P,kp⟩ (.BS rs x k v) f s K):eB P kp o a w H s K:=by
 have hv:=hf.ev x hx
 have Ew:=hf.ev k jY
 have eT:=hf.ev v TH
 simp only[G]at hG
 split at hG
 case h_2=>exact hG.elim
 rename_i l cs he AH
 rw[he]at hv
 rw[AH]at Ew
 have dc:=hv.N6
 split at hG
 case h_2=>exact hG.elim
 rename_i us clock hs
 obtain⟨jB,Kq,hG⟩:=hG
 obtain⟨es,hb,xZ,xg⟩:=hh.ob l _ hs
 have hE:ky H es.toList us:=Bx.list (by simpa using xZ) fun j e u h1 h2=>xg j e u (by simpa using h1) h2
 obtain⟨uC,eG,BW⟩:=a46 (w:=w) hm hk Ew jB eT hb hE Kq
 have aW:l<w.heap.size:=(Array.getElem?_eq_some_iff.1 hb).1
 have dT:=Step.N4 hh (o':= .map uC (Af us (.agg cs) (Go.Av.ev f v) clock).2) (ob:= .mp (Af us (.agg cs) (Go.Av.ev f v) clock).1 (Af us (.agg cs) (Go.Av.ev f v) clock).2) (by simp[hs]) hb (fun c e f h=>by cases h)
  ⟨uC,by
   show(w.heap.setIfInBounds l _)[l]? = _
   exact Array.getElem?_setIfInBounds_self_of_lt aW,by simpa using BW.length,fun j e u h1 h2=>BW.ok j e u (by simpa using h1) h2⟩
 refine .skip ?_ dT hG
 rcases ho with ho|ho<;>simp[execOp,ho,dc,eG]
theorem acf (mt kt et:TypeId) (x k:Operand) (ho:o.op= .mapEntry mt x k) {rs:List (Nat×CK)} (hm:P.underlying mt=some (.map kt et)) (hk:A6 P kt rs) {i:TypeInfo} (hi:P.info? et=some i) {z:Value} (hz:i.zero=some z) {za:AV} (Gk:RV H z za)
  (hx:cd x=true) (jY:cd k=true) (hf:eo H a f) (hh:dv H s w) (hG:G ⟨P,kp⟩ (.El rs za x k) f s K):eB P kp o a w H s K:=by
 have hv:=hf.ev x hx
 have Ew:=hf.ev k jY
 simp only[G]at hG
 split at hG
 case h_2=>exact hG.elim
 rename_i l cs he AH
 rw[he]at hv
 rw[AH]at Ew
 have dc:=hv.N6
 split at hG
 case h_2=>exact hG.elim
 rename_i us clock hs
 obtain⟨jB,Kq,hG⟩:=hG
 obtain⟨es,hb,xZ,xg⟩:=hh.ob l _ hs
 have hE:ky H es.toList us:=Bx.list (by simpa using xZ) fun j e u h1 h2=>xg j e u (by simpa using h1) h2
 obtain⟨uC,v,eG,TF,BW⟩:=a4d (w:=w) hm hk hi hz Gk Ew jB hb hE Kq
 have aW:l<w.heap.size:=(Array.getElem?_eq_some_iff.1 hb).1
 have dT:=Step.N4 hh (o':= .map uC (uu us (.agg cs) za clock).2.2.2) (ob:= .mp (uu us (.agg cs) za clock).2.2.1 (uu us (.agg cs) za clock).2.2.2) (by simp[hs]) hb (fun c e f h=>by cases h)
  ⟨uC,by
   show(w.heap.setIfInBounds l _)[l]? = _
   exact Array.getElem?_setIfInBounds_self_of_lt aW,by simpa using BW.length,fun j e u h1 h2=>BW.ok j e u (by simpa using h1) h2⟩
 refine .value (v:= .tuple #[v,.int .i64 ((uu us (.agg cs) za clock).2.1:Nat)]) ?_ dT (.dr _ _ rfl (fun j u hu=>by
    match j,hu with
    |0,hu=>simp at hu;subst hu;exact TF
    |1,hu=>simp at hu;subst hu;exact .v _ rfl
    |j+2,hu=>simp at hu)) hG
 simp[execOp,ho,dc,eG,goInt]
theorem af0 (mt:TypeId) (x i v:Operand) (ho:o.op= .entryStore mt x i v)
  (hx:cd x=true) (IT:cd i=true) (TH:cd v=true) (hf:eo H a f) (hh:dv H s w) (hG:G ⟨P,kp⟩ (.Et x i v) f s K):eB P kp o a w H s K:=by
 have hv:=hf.ev x hx
 have sf:=hf.ev i IT
 have eT:=hf.ev v TH
 simp only[G]at hG
 split at hG
 case h_2=>exact hG.elim
 rename_i l kd b he vT
 rw[he]at hv
 rw[vT]at sf
 have dc:=hv.N6
 have hai:a.eval i= .int kd b:=sf.a9f
 split at hG
 case h_2=>exact hG.elim
 rename_i us clock hs
 split at hG
 case h_2=>exact hG.elim
 rename_i j hj
 obtain⟨es,hb,xZ,xg⟩:=hh.ob l _ hs
 have hE:ky H es.toList us:=Bx.list (by simpa using xZ) fun j e u h1 h2=>xg j e u (by simpa using h1) h2
 obtain⟨uC,eG,BW⟩:=a3X (P:=P) (w:=w) (mt:=mt) (kd:=kd) eT hb hE hj
 have aW:l<w.heap.size:=(Array.getElem?_eq_some_iff.1 hb).1
 have dT:=Step.N4 hh (o':= .map uC clock) (ob:= .mp (us.modify j fun u=>(u.1,Go.Av.ev f v,u.2.2)) clock) (by simp[hs]) hb (fun c e f h=>by cases h)
  ⟨uC,by
   show(w.heap.setIfInBounds l _)[l]? = _
   exact Array.getElem?_setIfInBounds_self_of_lt aW,by simpa using BW.length,fun j e u h1 h2=>BW.ok j e u (by simpa using h1) h2⟩
 refine .skip ?_ dT hG
 simp[execOp,ho,dc,hai,eG]
end
section
variable {P:Program}{kp:AV→Hp→Prop}{o:Oper}{a:Act}{f:Fr}{w:World}{H:PH}{s:Hp}{K:AV→Hp→Prop}
theorem acg (t:TypeId) (x:Operand) (ho:o.op= .call {callee:= .builtin .cap,args:= #[x],argTypes:= #[t]}) (e:TypeId) (hu:P.underlying t=some (.slice e)) (hx:cd x=true) (hf:eo H a f) (hh:dv H s w) (hG:G ⟨P,kp⟩ (.wS x) f s K):eB P kp o a w H s K:=by
 have hv:=hf.ev x hx
 simp only[G]at hG
 generalize dc:a.eval x=xv at hv
 split at hG
 case h_2=>exact hG.elim
 rename_i r hr
 unfold Ip at hr
 split at hr
 ·rename_i l n cap k he
  rw[he]at hv
  obtain rfl:=Option.some.inj hr
  cases hv with
  |mb l n cap k hk ft=>exact .same hh (v:= .int .i64 cap) (by simp[execOp,ho,resolve,invoke,builtin,dc,Builtin.cap_,run_underlying hu,goInt]) (.v _ rfl) hG
 ·rename_i he
  rw[he]at hv
  obtain rfl:=Option.some.inj hr
  cases hv with
  |jo ad cap ow ha cj=>
   simp only[Own.xG]at cj
   subst cj
   have:=ha rfl
   subst this
   exact .same hh (v:= .int .i64 0) (by simp[execOp,ho,resolve,invoke,builtin,dc,Builtin.cap_,run_underlying hu,goInt]) (.v _ rfl) hG
  |sl b off len cap k fW xs ow hk hlen ft gr db hH hR cj=>exact cj.elim
 ·cases hr
theorem a4x (len cap:Nat) (lo hi mx:Option Operand) (l h m:Int) (te:(lo=none∧l=0)∨ ∃kk,valOf a lo=some (.int kk l)) (uz:(hi=none∧h=len)∨ ∃kk,valOf a hi=some (.int kk h)) (OA:(mx=none∧m=cap)∨ ∃kk,valOf a mx=some (.int kk m))
  (De:mx=none∨hi.isSome=true) (h0:0≤l) (h1:l≤h) (h2:h≤m) (hc:m≤cap) (w:World):(Instr.sliceBounds true len cap (valOf a lo) (valOf a hi) (valOf a mx)).run P w= .ok (l.toNat,h.toNat,m.toNat) w:=by
 have eh:(h.toNat:Int)=h:=Int.toNat_of_nonneg (by omega)
 have em:(m.toNat:Int)=m:=Int.toNat_of_nonneg (by omega)
 have h4:0≤h:=by omega
 have h5:0≤m:=by omega
 have h6:h≤(cap:Int):=by omega
 have en:valOf a none=none:=rfl
 rcases OA with ⟨rfl,rfl⟩|⟨km,hm⟩
 ·rcases te with ⟨rfl,rfl⟩|⟨kl,hl⟩<;>rcases uz with ⟨rfl,rfl⟩|⟨kh,hh⟩
  ·simp[Instr.sliceBounds,en]
  ·simp only[Instr.sliceBounds,en,hh]
   simp[run_sliceBound,h6,h4]
  ·simp only[Instr.sliceBounds,en,hl]
   simp[run_sliceBound,h0,h1]
  ·simp only[Instr.sliceBounds,hl,hh,en]
   simp[run_sliceBound,h0,h1,h6,h4,eh]
 ·have hmn:mx≠none:=by rintro rfl;rw[en]at hm;cases hm
  have hhs:hi.isSome=true:=De.resolve_left hmn
  rcases uz with ⟨rfl,rfl⟩|⟨kh,hh⟩
  ·simp at hhs
  rcases te with ⟨rfl,rfl⟩|⟨kl,hl⟩
  ·simp only[Instr.sliceBounds,en,hh,hm]
   simp[run_sliceBound,hc,h4,h5,h2,em]
  ·simp only[Instr.sliceBounds,hl,hh,hm]
   simp[run_sliceBound,h0,h1,hc,h4,h5,h2,em,eh]
theorem af1 (t:TypeId) (x:Operand) (lo hi mx:Option Operand) (ho:o.op= .slice t x lo hi mx) (De:mx=none∨hi.isSome=true) (e:TypeId) (hu:P.underlying t=some (.slice e)) (k:Nat) (hk:(P.info? e).map (·.size)=some k) (hx:cd x=true) (te:lo.all cd=true) (uz:hi.all cd=true) (OA:mx.all cd=true)
  (hf:eo H a f) (hh:dv H s w) (hG:G ⟨P,kp⟩ (.gu k x lo hi mx) f s K):eB P kp o a w H s K:=by
 have hv:=hf.ev x hx
 have eG: ∀(ad:Option Addr) (len cap:Nat) (l h m:Int),((lo=none∧l=0)∨ ∃kk,valOf a lo=some (.int kk l))→((hi=none∧h=len)∨ ∃kk,valOf a hi=some (.int kk h))→((mx=none∧m=cap)∨ ∃kk,valOf a mx=some (.int kk m))→0≤l→l≤h→h≤m→m≤cap→
   a.eval x= .slice ad len cap→(execOp a.eval o).run P w= .ok (.value (sliced ad l.toNat h.toNat m.toNat k)) w:=by
  intro ad len cap l h m e1 e2 e3 h0 h1 h2 hc dc
  have hb:=a4x (P:=P) len cap lo hi mx l h m e1 e2 e3 De h0 h1 h2 hc w
  simp only[valOf]at hb
  cases hq:P.info? e with
  |none=>simp[hq]at hk
  |some ii=>
   have hs:ii.size=k:=by simpa[hq] using hk
   simp[execOp,ho,dc,Instr.sliceAt,Instr.slice,run_underlying hu,hb,sizeOf,typeInfo,hq,hs,sliced]
 simp only[G]at hG
 generalize dc:a.eval x=xv at hv
 split at hG
 case h_2=>exact hG.elim
 rename_i r hr
 unfold KM at hr
 split at hr
 ·rename_i l0 len cap k' he
  rw[he]at hv
  split at hr
  case h_2=>cases hr
  rename_i l h m hl vV hm
  split at hr
  case isFalse=>cases hr
  rename_i hc
  obtain⟨rfl,h0,h1,h2,h3⟩:=hc
  obtain rfl:=Option.some.inj hr
  have e1:=uZ hf te hl
  have e2:=uZ hf uz vV
  have e3:=uZ hf OA hm
  cases hv with
  |mb l0 n cap k' jY ft=>
   have r:=eG _ len cap l h m (by simpa using e1) e2 e3 h0 h1 h2 h3 dc
   refine .same hh r ?_ hG
   cases lo with
   |none=>
    simp only[mf,Option.some.injEq]at hl
    subst hl
    simp only[Option.isSome_none,Bool.false_eq_true,if_false]
    have:sliced (some ⟨l0,0,none⟩) ((0:Nat):Int).toNat h.toNat m.toNat k'= .slice (some ⟨l0,0,none⟩) h.toNat m.toNat:=by
     unfold sliced
     simp[Addr.add]
    rw[this]
    exact .mb _ _ _ _ jY (by omega)
   |some lo=>
    simp only[Option.isSome_some,if_true]
    by_cases hlm:l<m
    ·rw[if_pos hlm]
     unfold sliced
     rw[if_neg (by omega),Option.map_some,uh,Nat.zero_add]
     exact .gK _ _ _ _ _ jY (by omega)
    ·rw[if_neg hlm]
     unfold sliced
     have:h.toNat - l.toNat=0:=by omega
     rw[this]
     refine .jo _ _ _ (fun hn=> ?_) trivial
     omega
 ·rename_i he
  rw[he]at hv
  split at hr
  case h_2=>cases hr
  rename_i l h m hl vV hm
  split at hr
  case isFalse=>cases hr
  rename_i hc
  obtain⟨rfl,rfl,rfl⟩:=hc
  obtain rfl:=Option.some.inj hr
  have e1:=uZ hf te hl
  have e2:=uZ hf uz vV
  have e3:=uZ hf OA hm
  cases hv with
  |jo ad cap ow ha cj=>
   simp only[Own.xG]at cj
   subst cj
   have:=ha rfl
   subst this
   have r:=eG none 0 0 0 0 0 (by simpa using e1) (by simpa using e2) (by simpa using e3) (by omega) (by omega) (by omega) (by omega) dc
   exact .same hh r (.jo _ _ .nil (fun _=>rfl) rfl) hG
  |sl b off len cap k fW xs ow hk hlen ft gr db hH hR cj=>exact cj.elim
 ·cases hr
theorem QA {z:Array Value}{i:Nat} (qe:z.size=i) (tC: ∀x∈z.toList,x.oneCell'=true) (hk:0<i) (n:Nat):dJ H (Builtin.zeroCells z n) (List.replicate n (z.toList.map gS)).flatten∧(∀c∈(List.replicate n (z.toList.map gS)).flatten,c.one=true):=by
 have pL:(z.toList.map gS).length=i:=by simp[qe]
 refine⟨dJ.lD.2 ⟨by simp[size_zeroCells,yJ],fun j x u il iQ=> ?_⟩,fun c hc=> ?_⟩
 ·have hj:j<n*i:=by
   have:=(List.getElem?_eq_some_iff.1 iQ).1
   rw[yJ,pL]at this;exact this
  rw[Rk _ _ _ (by rw[pL];exact hj),pL,List.getElem?_map]at iQ
  rw[Array.getElem?_toList]at il
  have Ir:j%i<z.size:=by rw[qe];exact Nat.mod_lt _ hk
  simp only[Builtin.zeroCells,qe]at il
  rw[Array.getElem?_map]at il
  simp only[Array.getElem?_range,hj,if_true,Option.map_some,Option.some.injEq]at il
  rw[getElem!_pos z _ Ir]at il
  rw[Array.getElem?_toList,Array.getElem?_eq_getElem Ir]at iQ
  simp only[Option.map_some,Option.some.injEq]at iQ
  subst il;subst iQ
  exact RV.gS H _ (tC _ (by simp))
 ·obtain⟨l,hl,hc⟩:=List.mem_flatten.1 hc
  obtain rfl:=(List.mem_replicate.1 hl).2
  obtain⟨x,_,rfl⟩:=List.mem_map.1 hc
  exact Br x
theorem af2 (t:TypeId) (x:Operand) (ho:o.op= .call {callee:= .builtin .clear,args:= #[x],argTypes:= #[t]}) (e:TypeId) (hu:P.underlying t=some (.slice e)) (i:TypeInfo) (hi:P.info? e=some i) (z:Value) (hz:i.zero=some z) (qe:z.cells.size=i.size) (tC: ∀x∈z.cells.toList,x.oneCell'=true) (hk:0<i.size)
  (hx:cd x=true) (hf:eo H a f) (hh:dv H s w) (hG:G ⟨P,kp⟩ (.AB i.size (z.cells.toList.map gS) x) f s K):eB P kp o a w H s K:=by
 have hv:=hf.ev x hx
 simp only[G]at hG
 generalize dc:a.eval x=xv at hv
 split at hG
 case h_2=>exact hG.elim
 rename_i s' iK
 unfold Ai at iK
 split at iK
 ·rename_i l off n k' he
  rw[he]at hv
  split at iK
  case h_2=>cases iK
  rename_i cs dF
  split at iK
  case isFalse=>cases iK
  rename_i hc
  obtain⟨rfl,hle⟩:=hc
  obtain rfl:=Option.some.inj iK
  obtain⟨hrz,db⟩:=QA (H:=H) qe tC hk n
  have hlen:(List.replicate n (z.cells.toList.map gS)).flatten.length=n*i.size:=by rw[yJ];simp[qe]
  obtain⟨vs,T,hb,fK,dT⟩:=Step.store hh dF off _ _ hrz db (by rw[hlen];exact hle)
  refine .value (v:= .tuple #[]) ?_ dT (.undef _) hG
  have E3:=run_storeCells_at P l off T (Builtin.zeroCells z.cells n).toList 0 vs w hb (by have:=hrz.1;simp only[Array.length_toList];omega) (Q5 tC n)
  simp only[Nat.add_zero]at E3
  have K8:(storeCells ⟨l,off,none⟩ (Builtin.zeroCells z.cells n).toList).run P w= .ok () (w.setRow l (jW vs off (Builtin.zeroCells z.cells n).toList)):=by rw[E3];rfl
  cases hv with
  |gK l off n cap k' jY ft=>
   cases n with
   |zero=>
    have e0:(Builtin.zeroCells z.cells 0).toList= []:=List.eq_nil_of_length_eq_zero (by simp[size_zeroCells])
    have e1:jW vs off []=vs:=by simp[jW]
    rw[e0,e1]
    have e2:w.setRow l vs=w:=setRow_self w l vs T (0,0) hb
    simp[execOp,ho,resolve,invoke,builtin,dc,Builtin.clear_,run_underlying hu,e2]
   |succ n=>simp[execOp,ho,resolve,invoke,builtin,dc,Builtin.clear_,run_underlying hu,zeroValue,hi,hz,typeInfo,K8]
 ·rename_i o' he
  rw[he]at hv
  obtain rfl:=Option.some.inj iK
  have hr:(execOp a.eval o).run P w= .ok (.value (.tuple #[])) w:=by
   cases hv with
   |jo ad cap ow ha cj=>cases ad<;>simp[execOp,ho,resolve,invoke,builtin,dc,Builtin.clear_,run_underlying hu]
   |sl b off len cap k fW xs ow hk hlen ft gr db hH hR cj=>simp at hlen;subst hlen;simp[execOp,ho,resolve,invoke,builtin,dc,Builtin.clear_,run_underlying hu]
  exact .same hh hr (.undef _) hG
 ·cases iK
theorem a5Y {yv:Value}{y:AV} (hv:RV H yv y) (hh:dv H s w) {k m:Nat}{ys:List AV} (h:hU s k y=some (m,ys)) (P:Program) (n:Nat) (hn:n≤m):
  ∃us:List Value,(Builtin.firstCells k n yv).run P w= .ok us.toArray w∧dJ H us.toArray (ys.take (n*k))∧(ys.take (n*k)).length=n*k:=by
 have fin: ∀(TJ:Value) (y':AV) (IU:List AV),RV H TJ y'→hU s k y'=some (n,IU)→IU=ys.take (n*k)→(Builtin.firstCells k n TJ).run P w=(Builtin.firstCells k n yv).run P w→
   ∃us:List Value,(Builtin.firstCells k n yv).run P w= .ok us.toArray w∧dJ H us.toArray (ys.take (n*k))∧(ys.take (n*k)).length=n*k:=by
  intro TJ y' IU h1 h2 h3 h4
  obtain⟨news,jj,m4,vi,_⟩:=N5 h1 hh h2 P
  refine⟨news,by rw[←h4];exact jj.cells,?_,by rw[←h3,←m4];exact jj.size⟩
  rw[←h3]
  refine dJ.lD.2 ⟨by simpa using m4,fun j xv u il iQ=> ?_⟩
  have:=vi j u iQ
  simp only[List.toList_toArray]at il
  rw[List.getD_eq_getElem?_getD,il]at this
  exact this
 have h0:=h
 unfold hU at h
 split at h
 ·rename_i xs ow
  split at h
  case isFalse=>cases h
  rename_i rr
  simp only[Option.some.injEq,Prod.mk.injEq]at h
  obtain⟨rfl,rfl⟩:=h
  have gr: ∀e∈xs,e.cells.length=k:=by simpa only[List.all_eq_true,decide_eq_true_eq] using rr
  cases hv with
  |jo ad cap ow ha cj=>
   simp only[List.length_nil,Nat.le_zero]at hn
   subst hn
   exact⟨[],by cases ad<;>simp[Builtin.firstCells,loadCells,loadCellsFrom],⟨by simp,fun j u h=>by simp at h⟩,by simp⟩
  |sl b off len cap k2 fW xs ow hk hlen ft KP db hH hR cj=>
   subst hlen
   have dm: ∀e∈xs.take n,e.cells.length=k2:=fun e he=>KP e (List.mem_of_mem_take he)
   have ke:flat (xs.take n)=(flat xs).take (n*k2):=((sK n KP).2).symm
   by_cases qU:xs= []
   ·subst qU
    simp only[List.length_nil,Nat.le_zero]at hn
    subst hn
    exact⟨[],by simp[Builtin.firstCells,loadCells,loadCellsFrom],⟨by simp,fun j u h=>by simp at h⟩,by simp⟩
   obtain rfl:k2=k:=by
    match xs,qU with
    |y0::r,_=>exact(KP y0 (by simp)).symm.trans (gr y0 (by simp))
   refine fin (.slice (some ⟨b,off,none⟩) n cap) (.sl (xs.take n) .any) (flat (xs.take n)) (.sl b off n cap k2 fW (xs.take n) .any hk (by simp;omega) (by omega) dm (fun c hc=> ?_) (fun j hj=>hH j (Nat.lt_of_lt_of_le hj (Nat.mul_le_mul_right _ hn))) (fun j u hu=> ?_) trivial) ?_ ke rfl
   ·rw[ke]at hc;exact db c (List.mem_of_mem_take hc)
   ·rw[ke]at hu
    have hj:j<n*k2:=by have:=(List.getElem?_eq_some_iff.1 hu).1;simp at this;omega
    rw[List.getElem?_take_of_lt hj]at hu
    exact hR j u hu
   ·unfold hU
    have:(xs.take n).all (fun e=>decide (e.cells.length=k2))=true:=by simpa only[List.all_eq_true,decide_eq_true_eq] using dm
    simp only[this,if_true]
    rw[List.length_take,Nat.min_eq_left hn]
 ·rename_i l n0 cap k'
  split at h
  case h_2=>cases h
  rename_i cs dF
  split at h
  case isFalse=>cases h
  rename_i hc
  simp only[Option.some.injEq,Prod.mk.injEq]at h
  obtain⟨rfl,rfl⟩:=h
  obtain⟨rfl,hle⟩:=hc
  have h2:n*k'≤n0*k':=Nat.mul_le_mul_right _ hn
  cases hv with
  |mb l n0 cap k' jY ft=>
   refine fin (.slice (some ⟨l,0,none⟩) n cap) (.mb l n cap k') (cs.take (n*k')) (.mb l n cap k' jY (by omega)) ?_ (by rw[List.take_take,Nat.min_eq_left h2]) rfl
   simp only[hU,dF]
   rw[if_pos ⟨trivial,by omega⟩]
 ·rename_i l off n0 k'
  split at h
  case h_2=>cases h
  rename_i cs dF
  split at h
  case isFalse=>cases h
  rename_i hc
  simp only[Option.some.injEq,Prod.mk.injEq]at h
  obtain⟨rfl,rfl⟩:=h
  obtain⟨rfl,hle⟩:=hc
  have h2:n*k'≤n0*k':=Nat.mul_le_mul_right _ hn
  cases hv with
  |gK l off n0 cap k' jY ft=>
   refine fin (.slice (some ⟨l,off,none⟩) n cap) (.gK l off n k') ((cs.drop off).take (n*k')) (.gK l off n cap k' jY (by omega)) ?_ (by rw[List.take_take,Nat.min_eq_left h2]) rfl
   simp only[hU,dF]
   rw[if_pos ⟨trivial,by omega⟩]
 ·cases h
theorem ach (t t':TypeId) (x y:Operand) (ho:o.op= .call {callee:= .builtin .copy,args:= #[x,y],argTypes:= #[t,t']}) (e:TypeId) (hu:P.underlying t=some (.slice e)) (k:Nat) (hk:(P.info? e).map (·.size)=some k)
  (hx:cd x=true) (hy:cd y=true) (hf:eo H a f) (hh:dv H s w) (hG:G ⟨P,kp⟩ (.pD k x y) f s K):eB P kp o a w H s K:=by
 have hv:=hf.ev x hx
 have fT:=hf.ev y hy
 simp only[G]at hG
 generalize dc:a.eval x=xv at hv
 split at hG
 case h_2=>exact hG.elim
 rename_i r s' hr
 unfold CQ at hr
 split at hr
 case h_2=>cases hr
 rename_i m ys xf
 obtain⟨news,jj,m4,vi,pZ⟩:=N5 fT hh xf P
 have wM:news.length=m*k:=jj.size
 have hyl:ys.length=m*k:=by rw[←m4,wM]
 have a00: ∀n,∃us:Array Value,(Builtin.firstCells k (min m n) (a.eval y)).run P w= .ok us w∧dJ H us (ys.take (n*k))∧(ys.take (n*k)).length=min m n*k:=by
  intro n
  obtain⟨us,h1,h2,h3⟩:=a5Y fT hh xf P (min m n) (by omega)
  have e1:ys.take (min m n*k)=ys.take (n*k):=by
   by_cases h:m≤n
   ·have:=Nat.mul_le_mul_right k h
    rw[Nat.min_eq_left h,List.take_of_length_le (by omega),List.take_of_length_le (by omega)]
   ·rw[Nat.min_eq_right (by omega)]
  rw[e1]at h2 h3
  exact⟨us.toArray,h1,h2,h3⟩
 have af3: ∃ii,P.info? e=some ii∧ii.size=k:=by
  cases hq:P.info? e with
  |none=>simp[hq]at hk
  |some ii=>exact⟨ii,rfl,by simpa[hq] using hk⟩
 obtain⟨ii,hq,TK⟩:=af3
 have main: ∀(l off n cap:Nat) (cs:List AV),xv= .slice (some ⟨l,off,none⟩) n cap→s l=some (.cells cs)→off+n*k≤cs.length→
   K (.v (.int .i64 (min m n:Nat))) (s.set l (.cells (putAt cs off (ys.take (n*k)))))→eB P kp o a w H s K:=by
  intro l off n cap cs qC dF hle hK
  obtain⟨us,tQ,Dj,hlen⟩:=a00 n
  have db: ∀c∈ys.take (n*k),c.one=true:=fun c hc=>pZ c (List.mem_of_mem_take hc)
  have CR:min m n*k≤n*k:=Nat.mul_le_mul_right _ (by omega)
  obtain⟨vs,T,hb,fK,dT⟩:=Step.store hh dF off (ys.take (n*k)) us Dj db (by omega)
  refine .value (v:= .int .i64 (min m n:Nat)) ?_ dT (.v _ rfl) hK
  have E3:=run_storeCells_at P l off T us.toList 0 vs w hb (by have:=Dj.1;simp;omega) (Dj.zY db)
  simp only[Nat.add_zero]at E3
  have K8:(storeCells ⟨l,off,none⟩ us.toList).run P w= .ok () (w.setRow l (jW vs off us.toList)):=by rw[E3];rfl
  have IN:Nat.min m n=min m n:=rfl
  rw[qC]at dc
  simp[execOp,ho,resolve,invoke,builtin,dc,Builtin.copy_,run_underlying hu,jj.len,sizeOf,typeInfo,hq,TK,IN,tQ,K8,goInt]
 split at hr
 ·rename_i l off n k' he
  rw[he]at hv
  split at hr
  case h_2=>cases hr
  rename_i cs dF
  split at hr
  case isFalse=>cases hr
  rename_i hc
  obtain⟨rfl,hle⟩:=hc
  simp only[Option.some.injEq,Prod.mk.injEq]at hr
  obtain⟨rfl,rfl⟩:=hr
  cases hv with
  |gK l off n cap k' jY ft=>exact main l off n cap cs rfl dF hle hG
 ·rename_i l n cap k' he
  rw[he]at hv
  split at hr
  case h_2=>cases hr
  rename_i cs dF
  split at hr
  case isFalse=>cases hr
  rename_i hc
  obtain⟨rfl,hle⟩:=hc
  simp only[Option.some.injEq,Prod.mk.injEq]at hr
  obtain⟨rfl,rfl⟩:=hr
  cases hv with
  |mb l n cap k' jY ft=>exact main l 0 n cap cs rfl dF (by omega) hG
 ·rename_i o' he
  rw[he]at hv
  simp only[Option.some.injEq,Prod.mk.injEq]at hr
  obtain⟨rfl,rfl⟩:=hr
  have hr:(execOp a.eval o).run P w= .ok (.value (.int .i64 0)) w:=by
   obtain⟨us,tQ,Dj,hlen⟩:=a00 0
   have IN:Nat.min m 0=0:=Nat.min_zero m
   rw[Nat.min_zero]at tQ
   have agt:us= #[]:=Array.eq_empty_of_size_eq_zero (by have:=Dj.1;simp at this;simpa using this)
   subst agt
   cases hv with
   |jo ad cap ow ha cj=>cases ad<;>simp[execOp,ho,resolve,invoke,builtin,dc,Builtin.copy_,run_underlying hu,jj.len,sizeOf,typeInfo,hq,TK,IN,tQ,goInt,storeCells]
   |sl b off len cap k fW xs ow hk hlen ft gr db hH hR cj=>simp at hlen;subst hlen;simp[execOp,ho,resolve,invoke,builtin,dc,Builtin.copy_,run_underlying hu,jj.len,sizeOf,typeInfo,hq,TK,IN,tQ,goInt,storeCells]
  exact .same hh hr (.v _ rfl) hG
 ·cases hr
theorem af4 (g:FuncId) (fn:Func) (x y:Operand) (Dd:Array TypeId) (ho:o.op= .call {callee:= .value (.func g),args:= #[x,y],argTypes:=Dd}) (vU:P.funcs[g]? =some fn) (af5:(fn.name== "runtime.NumGoroutine")=false) (hb:fn.body.isNone=true) (hn:Extern.findNext fn=none)
  (t:TypeId) (rs:Array TypeId) (he:Extern.find fn=some (Extern.SlicesOverlaps.overlaps #[t,t] rs)) (e:TypeId) (hu:P.underlying t=some (.slice e)) (k:Nat) (hk:(P.info? e).map (·.size)=some k)
  (hx:cd x=true) (hy:cd y=true) (hf:eo H a f) (hh:dv H s w) (hG:G ⟨P,kp⟩ (.zr x y) f s K):eB P kp o a w H s K:=by
 have hv:=hf.ev x hx
 have fT:=hf.ev y hy
 simp only[G]at hG
 generalize dc:a.eval x=xv at hv
 generalize Eu:a.eval y=yv at fT
 split at hG
 case h_2=>exact hG.elim
 rename_i r hr
 unfold Aj at hr
 split at hr
 case h_2=>cases hr
 rename_i l l' hl gX
 split at hr
 case isFalse=>cases hr
 rename_i hc
 obtain⟨bI,sj,BX⟩:=hc
 obtain rfl:=Option.some.inj hr
 have blk: ∀(q:AV) (qv:Value) (b:Nat),Iq q=some b→RV H qv q→ ∃off n cap,qv= .slice (some ⟨b,off,none⟩) n cap:=by
  intro q qv b h1 h2
  cases h2<;>simp only[Iq,Option.some.injEq,reduceCtorEq]at h1
  ·subst h1;exact⟨_,_,_,rfl⟩
  ·subst h1;exact⟨_,_,_,rfl⟩
 have obj: ∀b,yM s b=true→ ∃vs T,w.heap[b]? =some (.cells vs T (0,0))∧vs.size≠0:=by
  intro b h
  unfold yM at h
  split at h
  ·rename_i c cs dF
   obtain⟨_,vs,T,h1,h2,_⟩:=hh.ob b _ dF
   exact⟨vs,T,h1,by rw[h2.1];simp⟩
  ·cases h
 obtain⟨o1,n1,c1,rfl⟩:=blk _ _ _ hl hv
 obtain⟨o2,n2,c2,rfl⟩:=blk _ _ _ gX fT
 obtain⟨vs1,T1,g1,z1⟩:=obj _ sj
 obtain⟨vs2,T2,g2,z2⟩:=obj _ BX
 have fK: ∀w,(Go.sizeOf e).run P w= .ok k w:=by
  intro w
  cases hq:P.info? e with
  |none=>simp[hq]at hk
  |some ii=>
   have hs:ii.size=k:=by simpa[hq] using hk
   simp[sizeOf,typeInfo,hq,hs]
 have eG:=Lib.run_overlaps_apart (P:=P) w t (rs.getD 0 0) e hu k fK ⟨l,o1,none⟩ ⟨l',o2,none⟩ n1 c1 n2 c2 bI T1 T2 vs1.size vs2.size (by simp[World.shape?,g1]) (by simp[World.shape?,g2]) z2 (by simp[World.frozen?,g1]) (by simp[World.frozen?,g1])
 have Gl:(Extern.SlicesOverlaps.overlaps #[t,t] rs #[.slice (some ⟨l,o1,none⟩) n1 c1,.slice (some ⟨l',o2,none⟩) n2 c2]).run P w= .ok (.bool false) w:=eG
 have Sg:=run_callFunc_extern (P:=P) (f:=g) (fn:=fn) vU af5 hb hn he #[.slice (some ⟨l,o1,none⟩) n1 c1,.slice (some ⟨l',o2,none⟩) n2 c2] w
 rw[Gl]at Sg
 simp only[Result.andThen_ok]at Sg
 refine .same hh (v:= .bool false) ?_ (.v _ rfl) hG
 have TL:a.eval (.func g)= .func (.func g) #[] #[]:=rfl
 simp[execOp,ho,resolve,TL,Deferred.ofValue,invoke,dc,Eu,Sg]
theorem Yg (w:World) (t xt ty e:TypeId) (i:TypeInfo) (z:Value) (kn:IntKind) (ht:P.underlying t=some (.slice e)) (qz:P.underlying xt=some (.int kn))
  (hi:P.info? e=some i) (hz:i.zero=some z) (base:Option Addr) (n cap:Nat) (mB:List Value) (zx:0<i.size)
  (ho:(Builtin.firstCells i.size n (.slice base n cap)).run P w.drew= .ok mB.toArray w.drew)
  (m:Nat) (h0:0<m) (hg:cap<n+m) (td:((n+m:Nat):Int)≤9223372036854775807) (jB:(n+m)*i.bytes≤140737488355328):
  (Builtin.append_ #[t,xt] ty #[.slice base n cap,.int .i64 m]).run P w=
   .ok (.slice (some ⟨w.heap.size,0,none⟩) (n+m) (grownCap w (n+m) cap e))
    (w.drew.alloc (.cells (mB.toArray++Builtin.zeroCells z.cells m++Builtin.zeroCells z.cells (grownCap w (n+m) cap e -(n+m))) e)):=by
 have hn: ¬(n+m≤cap):=by omega
 have SA: ¬(9223372036854775807<((n:Int)+(m:Int))):=by omega
 have SB: ¬(281474976710656<Builtin.nextslicecap (n+m) cap*i.bytes):=by have:=growslice_fits hg jB;omega
 have hw:IntKind.i64.wrap (m:Int)=m:=by rw[IntKind.wrap_i64];omega
 have agu: ¬((m:Int)<0):=by omega
 have TM:m*i.bytes≤(n+m)*i.bytes:=Nat.mul_le_mul_right _ (by omega)
 have agv: ¬(281474976710656<(m:Int)*(i.bytes:Int)):=by
  rw[←Int.natCast_mul]
  omega
 have AF:m≠0:=by omega
 have hns: ¬(m*i.size=0):=Nat.mul_ne_zero AF (by omega)
 have hx: ∀w':World,(underlying xt).run P w'= .ok (.int kn) w':=fun w'=>run_underlying qz w'
 have fK: ¬(i.size=0):=by omega
 simp[Builtin.append_,run_underlying ht,hx,sizeOf,typeInfo,zeroValue,hi,hz,asInt,asIntOf,hw,agu,hn,hns,AF,fK,SA,SB,agv,Question.forced,ho,newRow,grownCap]
theorem aci (x y:Operand) (t xt:TypeId) (kn:IntKind) (qz:P.underlying xt=some (.int kn)) (ho:o.op= .call {callee:= .builtin .append,args:= #[x,y],argTypes:= #[t,xt]}) (e:TypeId) (hu:P.underlying t=some (.slice e)) (i:TypeInfo) (hi:P.info? e=some i) (z:Value) (hz:i.zero=some z)
  (qe:z.cells.size=i.size) (tC: ∀x∈z.cells.toList,x.oneCell'=true) (hk:0<i.size) (hx:cd x=true) (hy:cd y=true) (hf:eo H a f) (hh:dv H s w) (hG:G ⟨P,kp⟩ (.yZ i.size i.bytes (z.cells.toList.map gS) x y) f s K):eB P kp o a w H s K:=by
 have hv:=hf.ev x hx
 have fT:=hf.ev y hy
 simp only[G]at hG
 generalize dc:a.eval x=xv at hv
 generalize Eu:a.eval y=yv at fT
 have newRow: ∀(mB:List Value) (n m cap:Nat) (us:List AV),dJ H mB.toArray us→(∀c∈us,c.one=true)→n+m≤cap→
   ∃sp:List AV,sp.length=(cap -(n+m))*i.size∧Step H s w H (s.set w.heap.size (.cells (us++(List.replicate m (z.cells.toList.map gS)).flatten++sp))) (w.drew.alloc (.cells (mB.toArray++Builtin.zeroCells z.cells m++Builtin.zeroCells z.cells (cap -(n+m))) e)):=by
  intro mB n m cap us lh db ft
  obtain⟨zv,ho1⟩:=QA (H:=H) qe tC hk m
  obtain⟨qB,ho2⟩:=QA (H:=H) qe tC hk (cap -(n+m))
  refine⟨(List.replicate (cap -(n+m)) (z.cells.toList.map gS)).flatten,by rw[yJ];simp[qe],?_⟩
  refine(Step.drew hh).trans (Step.new hh.drew _ e _ (fun c hc=> ?_) (dJ.append (dJ.append lh zv) qB))
  simp only[List.mem_append]at hc
  rcases hc with (hc|hc)|hc
  ·exact db c hc
  ·exact ho1 c hc
  ·exact ho2 c hc
 split at hG
 ·rename_i l n cap k' m he kB
  rw[he]at hv;rw[kB]at fT
  obtain rfl:=fT.jc
  split at hG
  case h_2=>exact hG.elim
  rename_i cs dF
  obtain⟨rfl,im,AF,hg,rC,td,hK⟩:=hG
  obtain⟨db,vs,T,fz,hb,si⟩:=hh.read dF
  have fK:vs.size=cs.length:=si.1
  have em:((m.toNat:Nat):Int)=m:=Int.toNat_of_nonneg AF
  cases hv with
  |mb l n cap k jY ft=>
   have IM:n*i.size≤cs.length:=by rw[im];exact Nat.mul_le_mul_right _ ft
   have qd:(vs.toList.take (n*i.size)).length=n*i.size:=by simp;omega
   have BV:(Builtin.firstCells i.size n (.slice (some ⟨l,0,none⟩) n cap)).run P w.drew= .ok (vs.toList.take (n*i.size)).toArray w.drew:=by
    refine run_firstCells_some w.drew i.size n ⟨l,0,none⟩ n cap _ qd (fun j v hv=> ?_)
    have hj:j<n*i.size:=by have:=(List.getElem?_eq_some_iff.1 hv).1;omega
    rw[uh,Nat.zero_add]
    show w.cell? _= _
    rw[cell_of_row w l j vs T _ hb]
    rw[List.getElem?_take_of_lt hj,Array.getElem?_toList]at hv
    exact hv
   have hr:=Yg (P:=P) w t xt o.type e i z kn hu qz hi hz (some ⟨l,0,none⟩) n cap _ hk BV m.toNat (by omega) hg (by omega) rC
   rw[em]at hr
   have qf:=grownCap_ge w (n+m.toNat) cap e
   have hle:=grownCap_le_maxLen w (n+m.toNat) cap e (by unfold maxLen;omega)
   have lh:dJ H (vs.toList.take (n*i.size)).toArray (cs.take (n*i.size)):=by
    rw[dJ.lD]at si⊢
    refine⟨by simp;omega,fun j xv u il iQ=> ?_⟩
    simp only[List.toList_toArray]at il
    have hj:j<n*i.size:=by have:=(List.getElem?_eq_some_iff.1 iQ).1;simp at this;omega
    rw[List.getElem?_take_of_lt hj]at il iQ
    exact si.2 j xv u il iQ
   obtain⟨sp,jt,st⟩:=newRow _ n m.toNat (grownCap w (n+m.toNat) cap e) (cs.take (n*i.size)) lh (fun c hc=>db c (List.mem_of_mem_take hc)) qf
   exact .value (uU x y t xt ho (by rw[dc,Eu];exact hr)) st (.mb _ _ _ _ hk qf) (hK _ _ sp hh.me qf hle jt)
 ·rename_i xs ow m he kB
  rw[he]at hv;rw[kB]at fT
  obtain rfl:=fT.jc
  obtain⟨rfl,rfl,AF,rC,td,hK⟩:=hG
  have em:((m.toNat:Nat):Int)=m:=Int.toNat_of_nonneg (by omega)
  have qC:xv= .slice none 0 0:=by
   cases hv with
   |jo ad cap ow ha cj=>simp only[Own.xG]at cj;subst cj;rw[ha rfl]
   |sl b off len cap k fW xs ow hk hlen ft gr db hH hR cj=>exact cj.elim
  subst qC
  have hr:=Yg (P:=P) w t xt o.type e i z kn hu qz hi hz none 0 0 [] hk (by simp[Builtin.firstCells]) m.toNat (by omega) (by omega) (by omega) (by simpa using rC)
  rw[em]at hr
  simp only[Nat.zero_add]at hr
  have qf:=grownCap_ge w m.toNat 0 e
  have hle:=grownCap_le_maxLen w m.toNat 0 e (by unfold maxLen;omega)
  obtain⟨sp,jt,st⟩:=newRow [] 0 m.toNat (grownCap w m.toNat 0 e) [] ⟨rfl,fun j u h=>by simp at h⟩ (fun c hc=>by simp at hc) (by omega)
  simp only[Nat.zero_add,List.nil_append]at st jt
  exact .value (uU x y t xt ho (by rw[dc,Eu];exact hr)) st (.mb _ _ _ _ hk qf) (hK _ _ sp hh.me qf hle jt)
 ·exact hG.elim
end
def vK (P:Program) (t:TypeId):Option Nat:=(P.info? t).map (·.size)
def placeOf (P:Program) (t:TypeId) (i:Nat):Option (Nat×Nat):=
 match P.underlying t with
 |some (.struct fs)=>(fs.toList.mapM (fun f=>(P.info? f.type).map fun j=>(f.offset,j.size))).bind fun ps=>ps[i]?
 |some (.array _ e)=>(P.info? e).map fun ie=>(i*ie.size,ie.size)
 | _=>none
def R2 (P:Program) (t:TypeId):Bool:=
 match P.underlying t with
 |some (.struct fs)=>(fs.toList.mapM (fun f=>(P.info? f.type).map fun j=>(f.offset,j.size))).isSome
 |some (.array _ e)=>(P.info? e).isSome
 | _=>false
def IV (P:Program) (t:TypeId):Option (Array Value):=
 match P.info? t with
 |some i=>match i.zero with
  |some z=>if z.cells.toList.all (·.oneCell')then some z.cells else none
  |none=>none
 |none=>none
def YX (P:Program) (t:TypeId) (p:Nat×Operand):Option (Nat×Nat×Operand):=
 match placeOf P t p.1 with
 |some (off,sz)=>if 0<sz∧cd p.2=true then some (off,sz,p.2)else none
 |none=>none
def K3 (P:Program) (t:TypeId):List (Nat×Operand)→Option (List (Nat×Nat×Operand))
 | []=>some []
 |p::r=>match YX P t p,K3 P t r with
  |some q,some qs=>some (q::qs)
  | _,_=>none
def K9:Nat→List (Nat×Operand)→Option (List Operand)
 | _,[]=>some []
 |i,(j,x)::r=>if i=j∧cd x=true then(K9 (i+1) r).map (x:: ·)else none
def Yh (P:Program) (t:TypeId) (x:Operand):Option iu:=
 match P.underlying t,vK P t with
 |some d,some n=>if cd x=true∧(d.isRow=true∨n=1)then some (.load d.isRow n x)else none
 | _,_=>none
structure Env where
 Az:List Nat
 roD:List Nat
 wr:List Nat
 mu:List Nat
 ty:Bool
 sx:Bool
 pins:List Nat:= []
 rf:Bool:=false
 gx:Bool:=false
def Env.der (env:Env):Operand→Bool
 | .tmp u=>env.roD.contains u
 | _=>false
def Env.jq (env:Env):Option Nat→Bool
 |some d=> !env.wr.contains d
 |none=>true
def Env.mut (env:Env):Option Nat→Bool
 |some d=>env.mu.contains d
 |none=>false
def Env.af6 (env:Env):Operand→Bool
 | .tmp u=>env.mu.contains u
 | _=>false
def Env.box (env:Env):Option Nat→Bool
 |some d=>env.Az.contains d
 |none=>false
def QB (P:Program) (env:Env) (dst:Option Nat) (t:TypeId) (x:Operand) (lo hi mx:Option Operand):Option iu:=
 if cd x=true∧lo.all cd=true∧hi.all cd=true then
  match P.underlying t,mx with
  |some (.slice e),none=>match vK P e with
   |some k=>some (.pI k x lo hi)
   |none=>none
  |some (.slice e),some (.const (.int _ 0))=>match lo,hi with
   |none,some (.const (.int _ 0))=>if(P.info? e).isSome then some (.NZ x)else none
   | _,_=>none
  |some .string,none=>some (.Io x lo hi)
  |some (.array n e),none=>match vK P e with
   |some k=>if 0<k then some (if env.der x=true then .yY k n x lo hi else .BK k n x lo hi (env.jq dst))else none
   |none=>none
  | _,_=>none
 else none
def Nv (P:Program) (neg:Bool) (t:TypeId) (x y:Operand):Option iu:=
 match P.underlying t with
 |some .bool=>some (.Lc neg x y)
 |some (.slice _)=>match y with
  | .const (.slice none 0 0)=>some (.wX neg x)
  | _=>none
 |some (.pointer _)=>some (.Ge neg x y)
 |some (.int _)=>some (.bin (if neg then .neq else .eql) x y)
 |some .string=>some (.bin (if neg then .neq else .eql) x y)
 |some d=>match tA P 20 t with
  |some ks=>if P.cellsOf t=ks.length∧(P.info? t).isSome=true∧d.isRow=true∧P.eqGuardType P.depth t=false then some (.eqv neg (By ks) x y)else none
  |none=>none
 |none=>none
def R3 (P:Program) (env:Env) (dst:Option Nat) (c:Call):Option iu:=
 match c.callee,c.args.toList,c.argTypes.toList with
 | .value (.func g),args,_=>if A5 P g=true∧args.all cd=true then some (.bu g args)else none
 | .builtin .len,[x],[t]=>match P.underlying t with
  |some (.slice _)=>if cd x=true then some (.len x)else none
  |some .string=>if cd x=true then some (.KI x)else none
  |some (.array n _)=>some (.KJ n)
  | _=>none
 | .builtin .append,[x,y],[t,t']=>match P.underlying t with
  |some (.slice e)=>match P.info? e with
   |some i=>match i.zero with
    |some z=>if t=t'∧z.cells.size=i.size∧0<i.size∧cd x=true∧cd y=true then(if env.mut dst=true then(if z.cells.toList.all (·.oneCell')=true then some (.nh i.size i.bytes x y)else none)else some (.app i.size i.bytes x y))else none
    |none=>none
   |none=>none
  | _=>none
 | .builtin .max,[x,y],_=>if cd x=true∧cd y=true then some (.mm true .i64 x y)else none
 | .builtin .min,[x,y],_=>if cd x=true∧cd y=true then some (.mm false .i64 x y)else none
 | .builtin .copy,[x,y],[t,_]=>match P.underlying t with
  |some (.slice e)=>match vK P e with
   |some k=>if cd x=true∧cd y=true then some (.Da k x y)else none
   |none=>none
  | _=>none
 | _,_,_=>none
def Rm (P:Program) (env:Env) (o:Oper):Option iu:=
 match o.op with
 | .move x| .assign x=>if cd x=true then some (.mv x)else none
 | .pick c x y=>if cd c=true∧cd x=true∧cd y=true then some (.pick c x y)else none
 | .alloc T=>match IV P T with
  |some z=>some (.alloc T (z.toList.map gS))
  |none=>none
 | .box T x=>if cd x=true then some (if env.box o.dst=true then .yX T x else .box T x)else none
 | .load t x=>Yh P t x
 | .store t x y=>match vK P t with
  |some n=>if 0<n∧cd x=true∧cd y=true then some (.store n x y)else none
  |none=>none
 | .nilCheck x=>if cd x=true then some (.df x)else none
 | .fieldAddr t x i=>match P.underlying t with
  |some (.struct fs)=>match fs[i]? with
   |some fd=>match vK P fd.type with
    |some n=>if n≠0∧cd x=true then some (.fa fd.offset x)else none
    |none=>none
   |none=>none
  | _=>none
 | .indexAddr t x i=>if cd x=true∧cd i=true then
   match P.underlying t with
   |some (.array len e)=>match vK P e with
    |some k=>some (.jD k len x i)
    |none=>none
   |some (.slice e)=>match vK P e with
    |some k=>some (.kA k x i)
    |none=>none
   | _=>none
  else none
 | .field t x i=>match P.underlying t with
  |some (.struct fs)=>match fs[i]? with
   |some fd=>match P.underlying fd.type,vK P fd.type with
    |some d,some n=>if cd x=true∧(d.isRow=true∨n=1)then some (.Lb d.isRow fd.offset n x)else none
    | _,_=>none
   |none=>none
  | _=>none
 | .index t x i=>if cd x=true∧cd i=true then
   match P.underlying t with
   |some (.array len e)=>match P.underlying e,vK P e with
    |some d,some k=>if d.isRow=true∨k=1 then some (.Im d.isRow k len x i)else none
    | _,_=>none
   |some .string=>some (.CM x i)
   | _=>none
  else none
 | .build t parts=>match IV P t,K3 P t parts.toList with
  |some z,some res=>if R2 P t=true then some (.gf (z.toList.map gS) res)else none
  | _,_=>none
 | .buildSlice t n parts=>match P.underlying t,K9 0 parts.toList with
  |some (.slice e),some xs=>match P.info? e with
   |some i=>match i.zero with
    |some z=>if z.cells.size=i.size∧z.cells.toList.all (·.oneCell')=true∧0<i.size∧n*i.size≤2^24∧xs.length=n then some (if env.mut o.dst=true then .qw i.size xs else .gL i.size xs)else none
    |none=>none
   |none=>none
  | _,_=>none
 | .slice t x lo hi mx=>QB P env o.dst t x lo hi mx
 | .binOp op t x y _=>if cd x=true∧cd y=true then
   match op with
   | .eql=>Nv P false t x y
   | .neq=>Nv P true t x y
   |op=>some (.bin op x y)
  else none
 | .unOp op _ x=>if cd x=true then some (.un op x)else none
 | .convert st dt x=>match P.underlying st,P.underlying dt with
  |some (.int _),some (.int k)=>if cd x=true then some (.jF k x)else none
  |some (.slice e),some .string=>match P.underlying e with
   |some (.int .u8)=>if cd x=true then some (if env.af6 x=true then .CN x else .D9 x)else none
   | _=>none
  |some .string,some (.slice e)=>match P.underlying e with
   |some (.int .u8)=>if cd x=true then some (.Ld x)else none
   | _=>none
  | _,_=>none
 | .makeSlice t x y=>match P.underlying t with
  |some (.slice e)=>match P.info? e with
   |some i=>match i.zero with
    |some z=>if z.cells.size=i.size∧z.cells.toList.all (·.oneCell')=true∧0<i.size∧cd x=true∧cd y=true then some (.zo i.size i.bytes (z.cells.toList.map gS) x y)else none
    |none=>none
   |none=>none
  | _=>none
 | .extract x i=>if cd x=true then some (.ext x i)else none
 | .call c=>R3 P env o.dst c
 | _=>none
section
variable {P:Program}{kp:AV→Hp→Prop}{o:Oper}{a:Act}{w:World}{H:PH}{s:Hp}{K:AV→Hp→Prop}{f:Fr}
theorem a5Z {t:TypeId}{n:Nat} (h:vK P t=some n):(P.info? t).map (·.size)=some n:=h
theorem MK {d:TypeDesc}{n:Nat} (h:d.isRow=true∨n=1):d.isRow=false→n=1:=fun h'=>h.resolve_left (by simp[h'])
theorem N7 {t:TypeId}{z:Array Value} (h:IV P t=some z): ∃i v,P.info? t=some i∧i.zero=some v∧v.cells=z∧ ∀x∈z.toList,x.oneCell'=true:=by
 unfold IV at h
 split at h
 case h_2=>cases h
 rename_i i hi
 split at h
 case h_2=>cases h
 rename_i v hv
 split at h
 case isFalse=>cases h
 rename_i rr
 obtain rfl:=Option.some.inj h
 exact⟨i,v,hi,hv,rfl,by simpa only[List.all_eq_true] using rr⟩
theorem a7x {t:TypeId}{z:Array Value} (hz:IV P t=some z) (hp:R2 P t=true) (vs:List (Nat×Value)):P.built t vs=Instr.fill (placeOf P t) z vs:=by
 obtain⟨i,v,hi,hv,rfl,_⟩:=N7 hz
 unfold R2 at hp
 unfold Program.built placeOf
 cases hu:P.underlying t with
 |none=>simp[hu]at hp
 |some d=>
  cases d<;>simp only[hu]at hp<;>first
   |(cases hp;done)
   |skip
  case struct fs=>
   obtain⟨ps,hps⟩:=Option.isSome_iff_exists.1 hp
   simp[hi,hv,hps]
  case array n e=>
   obtain⟨ie,IK⟩:=Option.isSome_iff_exists.1 hp
   simp[hi,hv,IK]
theorem W6 {t:TypeId}: ∀ {parts:List (Nat×Operand)}{res:List (Nat×Nat×Operand)},K3 P t parts=some res→parts.length=res.length∧
  ∀(j:Nat) (p:Nat×Operand) (q:Nat×Nat×Operand),parts[j]? =some p→res[j]? =some q→placeOf P t p.1=some (q.1,q.2.1)∧p.2=q.2.2∧cd p.2=true∧0<q.2.1
 | [],res,h=>by
  simp only[K3,Option.some.injEq]at h;subst h
  exact⟨rfl,fun j p q h=>by simp at h⟩
 |p::parts,res,h=>by
  simp only[K3]at h
  split at h
  case h_2=>cases h
  rename_i q qs hq hqs
  obtain rfl:=Option.some.inj h
  obtain⟨h1,h2⟩:=W6 hqs
  refine⟨by simp[h1],fun j p' q' zy Gm=> ?_⟩
  match j,zy,Gm with
  |0,zy,Gm=>
   simp only[List.getElem?_cons_zero,Option.some.injEq]at zy Gm
   subst zy;subst Gm
   unfold YX at hq
   split at hq
   case h_2=>cases hq
   rename_i off sz BY
   split at hq
   case isFalse=>cases hq
   rename_i hc
   obtain rfl:=Option.some.inj hq
   exact⟨BY,rfl,hc.2,hc.1⟩
  |j+1,zy,Gm=>exact h2 j p' q' (by simpa using zy) (by simpa using Gm)
theorem Wc: ∀ {i:Nat}{parts:List (Nat×Operand)}{xs:List Operand},K9 i parts=some xs→parts=(xs.zipIdx i).map (fun p=>(p.2,p.1))∧ ∀x∈xs,cd x=true
 |i,[],xs,h=>by
  simp only[K9,Option.some.injEq]at h;subst h
  exact⟨rfl,fun x hx=>by simp at hx⟩
 |i,(j,x)::r,xs,h=>by
  simp only[K9]at h
  split at h
  case isFalse=>cases h
  rename_i hc
  obtain⟨ys,sZ,rfl⟩:=Option.map_eq_some_iff.1 h
  obtain⟨h1,h2⟩:=Wc sZ
  refine⟨by simp[List.zipIdx_cons,h1,hc.1],fun y hy=> ?_⟩
  rcases List.mem_cons.1 hy with rfl|hy
  ·exact hc.2
  ·exact h2 y hy
theorem Cw {α:Type}{xs:Array α}{x:α} (h:xs.toList= [x]):xs= #[x]:=Array.toList_inj.1 h
theorem uV {α:Type}{xs:Array α}{x y:α} (h:xs.toList= [x,y]):xs= #[x,y]:=Array.toList_inj.1 h
theorem a3S {env:Env}{dst:Option Nat}{t:TypeId}{x:Operand}{lo hi mx:Option Operand}{ao:iu} (ho:o.op= .slice t x lo hi mx) (h:QB P env dst t x lo hi mx=some ao) (hf:eo H a f) (hh:dv H s w) (hG:G ⟨P,kp⟩ ao f s K):eB P kp o a w H s K:=by
 unfold QB at h
 split at h
 case isFalse=>cases h
 rename_i hc
 split at h
 ·rename_i e hu
  split at h
  case h_2=>cases h
  rename_i k hk
  obtain rfl:=Option.some.inj h
  exact aeF t x lo hi ho e hu k hk hc.1 hc.2.1 hc.2.2 hf hh hG
 ·rename_i e km hu
  split at h
  case h_2=>cases h
  rename_i kh
  split at h
  case isFalse=>cases h
  rename_i dP
  obtain rfl:=Option.some.inj h
  exact abY t x kh km ho e hu dP hc.1 hf hh hG
 ·rename_i hu
  obtain rfl:=Option.some.inj h
  exact abZ t x lo hi ho hu hc.1 hc.2.1 hc.2.2 hf hh hG
 ·rename_i n e hu
  split at h
  case h_2=>cases h
  rename_i k hk
  split at h
  case isFalse=>cases h
  rename_i h0
  obtain rfl:=Option.some.inj h
  split at hG
  ·exact ac4 t x lo hi ho n e hu k hk h0 hc.1 hc.2.1 hc.2.2 hf hh hG
  ·exact ZY t x lo hi ho n e hu k hk h0 _ hc.1 hc.2.1 hc.2.2 hf hh hG
 ·cases h
theorem Wd {neg:Bool}{t yt:TypeId}{x y:Operand}{ao:iu} (ho:o.op= .binOp (if neg then .neq else .eql) t x y yt) (hx:cd x=true) (hy:cd y=true) (h:Nv P neg t x y=some ao) (hf:eo H a f) (hh:dv H s w) (hG:G ⟨P,kp⟩ ao f s K):eB P kp o a w H s K:=by
 unfold Nv at h
 split at h
 ·rename_i hu;obtain rfl:=Option.some.inj h;exact aeD neg t x y yt ho hu hx hy hf hh hG
 ·rename_i e hu
  split at h
  ·obtain rfl:=Option.some.inj h;exact aeO neg t x yt ho e hu hx hf hh hG
  ·cases h
 ·rename_i e hu;obtain rfl:=Option.some.inj h;exact aeE neg t x y yt ho e hu hx hy hf hh hG
 ·obtain rfl:=Option.some.inj h;exact S9 _ t x y yt ho hx hy hf hh hG
 ·obtain rfl:=Option.some.inj h;exact S9 _ t x y yt ho hx hy hf hh hG
 ·rename_i d _ _ _ _ _ hu
  split at h
  case h_2=>cases h
  rename_i ks vY
  split at h
  case isFalse=>cases h
  rename_i hc
  obtain rfl:=Option.some.inj h
  exact aeB neg t x y yt ho 20 ks vY hc.1 hc.2.1 (by omega) (by simp[hu,hc.2.2.1]) hc.2.2.2 hx hy hf hh hG
 ·cases h
theorem a3Y {env:Env}{dst:Option Nat}{c:Call}{ao:iu} (ho:o.op= .call c) (h:R3 P env dst c=some ao) (hf:eo H a f) (hh:dv H s w) (hG:G ⟨P,kp⟩ ao f s K):eB P kp o a w H s K:=by
 obtain⟨callee,args,argTypes⟩:=c
 unfold R3 at h
 split at h
 ·rename_i g jd
  simp only at jd
  subst jd
  split at h
  case isFalse=>cases h
  rename_i hc
  obtain rfl:=Option.some.inj h
  obtain⟨h1,h2⟩:=hc
  unfold A5 at h1
  split at h1
  case h_2=>cases h1
  rename_i fn vU
  simp only[Bool.and_eq_true,bne_iff_ne,ne_eq]at h1
  exact a9b g fn args argTypes ho vU h1.1 h1.2 (by simpa only[List.all_eq_true] using h2) hf hh hG
 ·rename_i x t jd hx ht
  simp only at jd hx ht
  subst jd
  obtain rfl:=Cw hx
  obtain rfl:=Cw ht
  split at h
  ·rename_i e hu
   split at h
   case isFalse=>cases h
   rename_i hc
   obtain rfl:=Option.some.inj h
   exact aez t x ho e hu hc hf hh hG
  ·rename_i hu
   split at h
   case isFalse=>cases h
   rename_i hc
   obtain rfl:=Option.some.inj h
   exact abW t x ho hu hc hf hh hG
  ·rename_i n e hu
   obtain rfl:=Option.some.inj h
   exact abX t x ho n e hu hh hG
  ·cases h
 ·rename_i x y t t' jd hx ht
  simp only at jd hx ht
  subst jd
  obtain rfl:=uV hx
  obtain rfl:=uV ht
  split at h
  case h_2=>cases h
  rename_i e hu
  split at h
  case h_2=>cases h
  rename_i i hi
  split at h
  case h_2=>cases h
  rename_i z hz
  split at h
  case isFalse=>cases h
  rename_i hc
  obtain⟨rfl,h1,h2,h3,h4⟩:=hc
  split at h
  ·split at h
   case isFalse=>cases h
   rename_i AG
   obtain rfl:=Option.some.inj h
   exact ZZ x y t t _ hu (.inl ⟨e,rfl⟩) ho e hu i hi z hz h1 (by simpa only[List.all_eq_true] using AG) h2 h3 h4 hf hh hG
  ·obtain rfl:=Option.some.inj h
   exact aeH x y t ho e hu i hi z hz h1 h2 h3 h4 hf hh hG
 ·rename_i x y jd hx
  simp only at jd hx
  subst jd
  obtain rfl:=uV hx
  split at h
  case isFalse=>cases h
  rename_i hc
  obtain rfl:=Option.some.inj h
  exact a0Q true .i64 x y _ ho hc.1 hc.2 hf hh hG
 ·rename_i x y jd hx
  simp only at jd hx
  subst jd
  obtain rfl:=uV hx
  split at h
  case isFalse=>cases h
  rename_i hc
  obtain rfl:=Option.some.inj h
  exact a0Q false .i64 x y _ ho hc.1 hc.2 hf hh hG
 ·rename_i x y t t' jd hx ht
  simp only at jd hx ht
  subst jd
  obtain rfl:=uV hx
  obtain rfl:=uV ht
  split at h
  case h_2=>cases h
  rename_i e hu
  split at h
  case h_2=>cases h
  rename_i k hk
  split at h
  case isFalse=>cases h
  rename_i hc
  obtain rfl:=Option.some.inj h
  exact aeL t t' x y ho e hu k hk hc.1 hc.2 hf hh hG
 ·cases h
theorem a47 {env:Env}{ao:iu} (h:Rm P env o=some ao) (hf:eo H a f) (hh:dv H s w) (hG:G ⟨P,kp⟩ ao f s K):eB P kp o a w H s K:=by
 unfold Rm at h
 split at h
 case h_1 x ho=>split at h;(rename_i hx;obtain rfl:=Option.some.inj h;exact a0O x (.inl ho) hx hf hh hG);(cases h)
 case h_2 x ho=>split at h;(rename_i hx;obtain rfl:=Option.some.inj h;exact a0O x (.inr ho) hx hf hh hG);(cases h)
 case h_3 c x y ho=>split at h;(rename_i hx;obtain rfl:=Option.some.inj h;exact abS c x y ho hx.1 hx.2.1 hx.2.2 hf hh hG);(cases h)
 case h_4 T ho=>
  split at h
  ·rename_i z hz
   obtain rfl:=Option.some.inj h
   obtain⟨i,v,hi,hv,rfl,db⟩:=N7 hz
   exact a9a T ho i hi v hv db hh hG
  ·cases h
 case h_5 T x ho=>
  split at h
  ·rename_i hx
   obtain rfl:=Option.some.inj h
   split at hG
   ·exact ac3 T x ho hx hf hh hG
   ·exact aeu T x ho hx hf hh hG
  ·cases h
 case h_6 t x ho=>
  unfold Yh at h
  split at h
  ·rename_i d n hu hn
   split at h
   ·rename_i hc;obtain rfl:=Option.some.inj h;exact abR t x ho d hu n hn (MK hc.2) hc.1 hf hh hG
   ·cases h
  ·cases h
 case h_7 t x y ho=>
  split at h
  ·rename_i n hn
   split at h
   ·rename_i hc;obtain rfl:=Option.some.inj h;exact a99 t x y ho n hn hc.1 hc.2.1 hc.2.2 hf hh hG
   ·cases h
  ·cases h
 case h_8 x ho=>split at h;(rename_i hx;obtain rfl:=Option.some.inj h;exact abT x ho hx hf hh hG);(cases h)
 case h_9 t x i ho=>
  split at h
  ·rename_i fs hu
   split at h
   ·rename_i fd Dc
    split at h
    ·rename_i n hn
     split at h
     ·rename_i hc;obtain rfl:=Option.some.inj h;exact agl t x i ho fs hu fd Dc n hn hc.1 hc.2 hf hh hG
     ·cases h
    ·cases h
   ·cases h
  ·cases h
 case h_10 t x i ho=>
  split at h
  case isFalse=>cases h
  rename_i hc
  split at h
  ·rename_i len e hu
   split at h
   ·rename_i k hk;obtain rfl:=Option.some.inj h;exact aev t x i ho len e hu k hk hc.1 hc.2 hf hh hG
   ·cases h
  ·rename_i e hu
   split at h
   ·rename_i k hk;obtain rfl:=Option.some.inj h;exact aew t x i ho e hu k hk hc.1 hc.2 hf hh hG
   ·cases h
  ·cases h
 case h_11 t x i ho=>
  split at h
  ·rename_i fs hu
   split at h
   ·rename_i fd Dc
    split at h
    ·rename_i d n hd hn
     split at h
     ·rename_i hc;obtain rfl:=Option.some.inj h;exact aex t x i ho fs hu fd Dc d hd n hn (MK hc.2) hc.1 hf hh hG
     ·cases h
    ·cases h
   ·cases h
  ·cases h
 case h_12 t x i ho=>
  split at h
  case isFalse=>cases h
  rename_i hc
  split at h
  ·rename_i len e hu
   split at h
   ·rename_i d k hd hk
    split at h
    ·rename_i xQ;obtain rfl:=Option.some.inj h;exact abU t x i ho len e hu d hd k hk (MK xQ) hc.1 hc.2 hf hh hG
    ·cases h
   ·cases h
  ·rename_i hu;obtain rfl:=Option.some.inj h;exact abV t x i ho hu hc.1 hc.2 hf hh hG
  ·cases h
 case h_13 t parts ho=>
  split at h
  ·rename_i z res hz Ak
   split at h
   ·rename_i hp
    obtain rfl:=Option.some.inj h
    obtain⟨i,v,hi,hv,rfl,db⟩:=N7 hz
    obtain⟨r1,r2⟩:=W6 Ak
    exact aeG t parts ho (placeOf P t) _ res (a7x hz hp) db r1 r2 hf hh hG
   ·cases h
  ·cases h
 case h_14 t n parts ho=>
  split at h
  ·rename_i e xs hu qU
   split at h
   ·rename_i i hi
    split at h
    ·rename_i z hz
     split at h
     ·rename_i hc
      obtain rfl:=Option.some.inj h
      obtain⟨h1,h2⟩:=Wc qU
      split at hG
      ·exact ac1 t n parts ho e hu i hi z hz hc.1 (by simpa only[List.all_eq_true] using hc.2.1) hc.2.2.1 hc.2.2.2.1 xs h1 hc.2.2.2.2 h2 hf hh hG
      exact a0t t n parts ho e hu i hi z hz hc.1 (by simpa only[List.all_eq_true] using hc.2.1) hc.2.2.1 hc.2.2.2.1 xs h1 hc.2.2.2.2 h2 hf hh hG
     ·cases h
    ·cases h
   ·cases h
  ·cases h
 case h_15 t x lo hi mx ho=>exact a3S ho h hf hh hG
 case h_16 op t x y yt ho=>
  split at h
  case isFalse=>cases h
  rename_i hc
  split at h
  ·exact Wd (neg:=false) ho hc.1 hc.2 h hf hh hG
  ·exact Wd (neg:=true) ho hc.1 hc.2 h hf hh hG
  ·obtain rfl:=Option.some.inj h;exact S9 _ t x y yt ho hc.1 hc.2 hf hh hG
 case h_17 op t x ho=>split at h;(rename_i hx;obtain rfl:=Option.some.inj h;exact agm op t x ho hx hf hh hG);(cases h)
 case h_18 st dt x ho=>
  split at h
  ·rename_i k' k hs hd
   split at h
   ·rename_i hx;obtain rfl:=Option.some.inj h;exact aeA st dt x ho k k' hs hd hx hf hh hG
   ·cases h
  ·rename_i e hs hd
   split at h
   ·rename_i vj
    split at h
    ·rename_i hx
     obtain rfl:=Option.some.inj h
     split at hG
     ·exact ac5 st dt x ho e hs vj hd hx hf hh hG
     ·exact aeJ st dt x ho e hs vj hd hx hf hh hG
    ·cases h
   ·cases h
  ·rename_i e hs hd
   split at h
   ·rename_i vj
    split at h
    ·rename_i hx;obtain rfl:=Option.some.inj h;exact aeP st dt x ho e hs hd vj hx hf hh hG
    ·cases h
   ·cases h
  ·cases h
 case h_19 t x y ho=>
  split at h
  case h_2=>cases h
  rename_i e hu
  split at h
  case h_2=>cases h
  rename_i i hi
  split at h
  case h_2=>cases h
  rename_i z hz
  split at h
  case isFalse=>cases h
  rename_i hc
  obtain rfl:=Option.some.inj h
  exact aeK t x y ho e hu i hi z hz hc.1 (by simpa only[List.all_eq_true] using hc.2.1) hc.2.2.1 hc.2.2.2.1 hc.2.2.2.2 hf hh hG
 case h_20 x i ho=>split at h;(rename_i hx;obtain rfl:=Option.some.inj h;exact aey x i ho hx hf hh hG);(cases h)
 case h_21 c ho=>exact a3Y ho h hf hh hG
 ·cases h
end
def Si (P:Program) (g:FuncId):Bool:=
 match P.funcs[g]? with
 |some fn=>fn.name== "internal/abi.NoEscape" &&fn.origin== "" &&fn.body.isNone
 |none=>false
def a7y:Operand→Bool
 | .const (.pointer none)=>true
 | _=>false
def a0v (P:Program) (t:TypeId):Bool:=
 match P.underlying t with
 |some (.slice _)=>true
 |some .string=>true
 | _=>false
def R4 (P:Program) (env:Env) (dst:Option Nat) (x y:Operand) (t xt:TypeId):Option iu:=
 match P.underlying t with
 |some (.slice e)=>match P.info? e with
  |some i=>match i.zero with
   |some z=>if a0v P xt=true∧z.cells.size=i.size∧z.cells.toList.all (·.oneCell')=true∧0<i.size∧cd x=true∧cd y=true then
     (if env.ty=true then(if i.size=1∧i.bytes≤1 then some (.Em e x y)else none)else if t≠xt∧env.mut dst=true then some (.nh i.size i.bytes x y)else none)else none
   |none=>none
  |none=>none
 | _=>none
def QC (P:Program) (env:Env) (dst:Option Nat) (c:Call):Option iu:=
 match c.callee,c.args.toList,c.argTypes.toList with
 | .value (.func g),[x],_=>if Si P g=true∧cd x=true then some (.mv x)else none
 | .value (.tmp u),args,_=>if args.all cd=true then some (.rn (.tmp u) args)else none
 | .builtin .unsafeSliceData,[x],[_]=>if cd x=true then some (.KL x)else none
 | .builtin .unsafeString,[x,y],[pt,_]=>match P.underlying pt with
  |some (.pointer e)=>if P.cellsOf e=1∧cd x=true∧cd y=true then some (.En e x y)else none
  | _=>none
 | .builtin .append,[x,y],[t,xt]=>R4 P env dst x y t xt
 | _,_,_=>none
def Ng (P:Program) (neg:Bool) (t:TypeId) (x y:Operand):Option iu:=
 match P.underlying t with
 |some (.interface _)=>match y with
  | .const .nilIface=>if cd x=true then some (.Lg neg x)else none
  | _=>none
 |some (.func _ _ _)=>match y with
  | .const .nilFunc=>if cd x=true then some (.KK neg x)else none
  | _=>none
 |some (.pointer e)=>match P.info? e with
  |some i=>if a7y y=false∧i.size≠0∧cd x=true∧cd y=true then some (.CP neg x y)else none
  |none=>none
 | _=>none
def R5:TypeDesc→Bool
 | .interface _=>true
 | _=>false
theorem Wp {d:TypeDesc} (h:R5 d=false): ∀m,d≠ .interface m:=fun m hm=>by subst hm;cases h
def R6 (P:Program) (env:Env) (dst:Option Nat) (st dt:TypeId) (x:Operand):Option iu:=
 match P.underlying st,P.underlying dt with
 |some .string,some (.slice e)=>match P.underlying e with
  |some (.int .u8)=>if env.mut dst=true∧cd x=true then some (.Ei x)else none
  | _=>none
 |some (.pointer e),some .unsafePointer=>match P.info? e with
  |some j=>if j.size≠0∧cd x=true then some (.BT x)else none
  |none=>none
 |some .unsafePointer,some (.pointer u)=>match P.info? u with
  |some _=>if liesAt P P.depth u (P.cellsOf u/P.cellsOf u) 0 u 1=true∧cd x=true then some (.BU u (P.cellsOf u) x)else none
  |none=>none
 | _,_=>none
def I1 (P:Program) (kt:TypeId) (ks:List CK):Bool:=
 decide (P.cellsOf kt=ks.length)&&(P.info? kt).isSome&&(match P.underlying kt with|some (.array _ _)|some (.struct _)=>true| _=>false)
theorem QD {P:Program}{kt:TypeId}{ks:List CK} (h:tA P 20 kt=some ks) (hb:I1 P kt ks=true):A6 P kt (By ks):=by
 simp only[I1,Bool.and_eq_true,decide_eq_true_eq]at hb
 obtain⟨⟨h1,h2⟩,h3⟩:=hb
 refine⟨⟨20,by omega,by rw[ME];exact h⟩,by rw[ME];exact h1,h2,?_⟩
 cases hu:P.underlying kt with
 |none=>rw[hu]at h3;cases h3
 |some d=>
  rw[hu]at h3
  refine⟨d,rfl,?_,h3⟩
  cases d<;>first|rfl|cases h3
def Rn (P:Program) (op:Op):Option iu:=
 match op with
 | .makeMap _ none=>some .zq
 | .lookup mt x k ok=>match P.underlying mt with
  |some (.map kt et)=>match tA P 20 kt,P.info? et with
   |some ks,some i=>match i.zero with
    |some z=>if I1 P kt ks=true∧E1 z=true∧cd x=true∧cd k=true then some (.BR ok (By ks) (ofConst z) x k)else none
    |none=>none
   | _,_=>none
  | _=>none
 | .mapUpdate mt x k v| .insert mt x k v=>match P.underlying mt with
  |some (.map kt _)=>match tA P 20 kt with
   |some ks=>if I1 P kt ks=true∧cd x=true∧cd k=true∧cd v=true then some (.BS (By ks) x k v)else none
   |none=>none
  | _=>none
 | .mapEntry mt x k=>match P.underlying mt with
  |some (.map kt et)=>match tA P 20 kt,P.info? et with
   |some ks,some i=>match i.zero with
    |some z=>if I1 P kt ks=true∧E1 z=true∧cd x=true∧cd k=true then some (.El (By ks) (ofConst z) x k)else none
    |none=>none
   | _,_=>none
  | _=>none
 | .entryStore _ x i v=>if cd x=true∧cd i=true∧cd v=true then some (.Et x i v)else none
 | _=>none
def Sj (P:Program) (env:Env) (o:Oper):Option iu:=
 match o.op with
 | .alloc T=>if env.ty=true then(match IV P T with
  |some z=>some (.A4 T (z.toList.map gS))
  |none=>none)else none
 | .store t x y=>if env.ty=true∨env.sx=true then(match vK P t with
  |some n=>if 0<n∧cd x=true∧cd y=true then some (.Fx n x y)else none
  |none=>none)else none
 | .makeFunc (.func f) first cap=>if first.toList.all cd=true∧cap.toList.all cd=true then some (.eU f first.toList cap.toList)else none
 | .makeInterface t x=>match P.underlying t with
  |some d=>if R5 d=false∧cd x=true then some (.Db t x)else none
  |none=>none
 | .typeAssert x _ t ok=>match P.underlying t,P.info? t with
  |some d,some i=>match i.zero with
   |some z=>if R5 d=false∧E1 z=true∧cd x=true then some (.Ej t ok (ofConst z) x)else none
   |none=>none
  | _,_=>none
 | .panic x=>if cd x=true then some (.zp x)else none
 | .range t x=>match P.underlying t with
  |some .string=>if cd x=true then some (.Ag x)else none
  | _=>none
 | .next x true=>if cd x=true then some (.Ek x)else none
 | .convert st dt x=>R6 P env o.dst st dt x
 | .binOp .eql t x y _=>Ng P false t x y
 | .binOp .neq t x y _=>Ng P true t x y
 | .call c=>QC P env o.dst c
 | _=>none
def a0w (P:Program) (g:FuncId):Bool:=
  match P.funcs[g]? with
  |some fn=>fn.origin== "slices.overlaps" &&fn.body.isNone&& !(fn.name== "runtime.NumGoroutine")&&(Extern.allNextRows.lookup fn.name).isNone&&(Extern.allGenericRows.lookup fn.name).isNone&&(Extern.allTypedRows.lookup fn.name).isNone&&(Extern.allRows.lookup fn.name).isNone&&
    (match fn.params.toList with
     | [t,t']=>t==t'&&(match P.underlying t with|some (.slice e)=>(P.info? e).isSome| _=>false)
     | _=>false)
  |none=>false
def QE (P:Program) (env:Env) (c:Call):Option iu:=
 match c.callee,c.args.toList,c.argTypes.toList with
 | .builtin .cap,[x],[t]=>match P.underlying t with
  |some (.slice _)=>if cd x=true then some (.wS x)else none
  | _=>none
 | .builtin .clear,[x],[t]=>match P.underlying t with
  |some (.slice e)=>match P.info? e with
   |some i=>match i.zero with
    |some z=>if z.cells.size=i.size∧z.cells.toList.all (·.oneCell')=true∧0<i.size∧cd x=true then some (.AB i.size (z.cells.toList.map gS) x)else none
    |none=>none
   |none=>none
  | _=>none
 | .builtin .copy,[x,y],[t,_]=>if env.gx=true then(match P.underlying t with
  |some (.slice e)=>match vK P e with
   |some k=>if cd x=true∧cd y=true then some (.pD k x y)else none
   |none=>none
  | _=>none)else none
 | .builtin .append,[x,y],[t,xt]=>match P.underlying xt with
  |some (.int _)=>match P.underlying t with
   |some (.slice e)=>match P.info? e with
    |some i=>match i.zero with
     |some z=>if z.cells.size=i.size∧z.cells.toList.all (·.oneCell')=true∧0<i.size∧cd x=true∧cd y=true then some (.yZ i.size i.bytes (z.cells.toList.map gS) x y)else none
     |none=>none
    |none=>none
   | _=>none
  | _=>none
 | .value (.func g),[x,y],_=>if a0w P g=true∧cd x=true∧cd y=true then some (.zr x y)else none
 | _,_,_=>none
def Sk (P:Program) (env:Env) (o:Oper):Option iu:=
 match o.op with
 | .slice t x lo hi mx=>if env.gx=true then(match P.underlying t with
  |some (.slice e)=>match vK P e with
   |some k=>if cd x=true∧lo.all cd=true∧hi.all cd=true∧mx.all cd=true∧(mx=none∨hi.isSome=true)then some (.gu k x lo hi mx)else none
   |none=>none
  | _=>none)else none
 | .call c=>QE P env c
 | _=>none
def RJ (P:Program) (env:Env) (o:Oper):Option iu:=
 match Sk P env o with
 |some a=>some a
 |none=>match Rn P o.op with
 |some a=>some a
 |none=>match Sj P env o with
 |some a=>some a
 |none=>Rm P env o
theorem a7z:Extern.allNextRows.lookup "slices.overlaps" =none:=by kernel_rfl
theorem a9g:Extern.allGenericRows.lookup "slices.overlaps" =none:=by kernel_rfl
theorem a9h:Extern.allTypedRows.lookup "slices.overlaps" =some Extern.SlicesOverlaps.overlaps:=by kernel_rfl
theorem a57:Extern.allNextRows.lookup "internal/abi.NoEscape" =none:=by kernel_rfl
theorem a60:Extern.allNextRows.lookup "" =none:=by kernel_rfl
theorem a61:Extern.allGenericRows.lookup "internal/abi.NoEscape" =none:=by kernel_rfl
theorem a62:Extern.allTypedRows.lookup "internal/abi.NoEscape" =none:=by kernel_rfl
theorem a63:Extern.allRows.lookup "internal/abi.NoEscape" =some Extern.AbiNoEscape.same:=by kernel_rfl
section
variable {P:Program}{kp:AV→Hp→Prop}{o:Oper}{a:Act}{w:World}{H:PH}{s:Hp}{K:AV→Hp→Prop}{f:Fr}
theorem a9i (g:FuncId) (x:Operand) (Dd:Array TypeId) (ho:o.op= .call {callee:= .value (.func g),args:= #[x],argTypes:=Dd}) (hg:Si P g=true) (hx:cd x=true) (hf:eo H a f) (hh:dv H s w) (hG:G ⟨P,kp⟩ (.mv x) f s K):eB P kp o a w H s K:=by
 unfold Si at hg
 split at hg
 case h_2=>cases hg
 rename_i fn vU
 simp only[Bool.and_eq_true,beq_iff_eq]at hg
 obtain⟨⟨h1,h2⟩,h3⟩:=hg
 have hn:Extern.findNext fn=none:=by simp[Extern.findNext,h1,h2,a57,a60]
 have he:Extern.find fn=some Extern.AbiNoEscape.same:=by simp[Extern.find,h1,a61,a62,a63]
 have hr:=run_callFunc_extern (P:=P) (f:=g) (fn:=fn) (e:=Extern.AbiNoEscape.same) vU (by rw[h1];decide) h3 hn he #[a.eval x] w
 refine .same hh (v:=a.eval x) ?_ (hf.ev x hx) hG
 have TL:a.eval (.func g)= .func (.func g) #[] #[]:=rfl
 have e2:(Extern.AbiNoEscape.same #[a.eval x]).run P w= .ok (a.eval x) w:=rfl
 simp only[e2,Result.andThen_ok]at hr
 simp[execOp,ho,resolve,TL,Deferred.ofValue,invoke,hr]
theorem W7 {neg:Bool}{t yt:TypeId}{x y:Operand}{ao:iu} (ho:o.op= .binOp (if neg then .neq else .eql) t x y yt) (h:Ng P neg t x y=some ao) (hf:eo H a f) (hh:dv H s w) (hG:G ⟨P,kp⟩ ao f s K):eB P kp o a w H s K:=by
 unfold Ng at h
 split at h
 ·rename_i ms hu
  split at h
  case h_2=>cases h
  split at h
  case isFalse=>cases h
  rename_i hx
  obtain rfl:=Option.some.inj h
  exact aeS neg t x yt ho ms hu hx hf hh hG
 ·rename_i a1 a2 a3 hu
  split at h
  case h_2=>cases h
  split at h
  case isFalse=>cases h
  rename_i hx
  obtain rfl:=Option.some.inj h
  exact ac7 neg t x yt ho a1 a2 a3 hu hx hf hh hG
 ·rename_i e hu
  split at h
  case h_2=>cases h
  rename_i i hi
  split at h
  case isFalse=>cases h
  rename_i hc
  obtain rfl:=Option.some.inj h
  exact ac8 neg t x y yt ho e hu i hi hc.2.1 hc.2.2.1 hc.2.2.2 hf hh hG
 ·cases h
theorem a3Z {env:Env}{dst:Option Nat}{st dt:TypeId}{x:Operand}{ao:iu} (ho:o.op= .convert st dt x) (h:R6 P env dst st dt x=some ao) (hf:eo H a f) (hh:dv H s w) (hG:G ⟨P,kp⟩ ao f s K):eB P kp o a w H s K:=by
 unfold R6 at h
 split at h
 ·rename_i e hs hd
  split at h
  case h_2=>cases h
  rename_i vj
  split at h
  case isFalse=>cases h
  rename_i hc
  obtain rfl:=Option.some.inj h
  exact ace st dt x ho e hs hd vj hc.2 hf hh hG
 ·rename_i e hs hd
  split at h
  case h_2=>cases h
  rename_i j hj
  split at h
  case isFalse=>cases h
  rename_i hc
  obtain rfl:=Option.some.inj h
  exact aeU st dt x ho e hs hd j hj hc.1 hc.2 hf hh hG
 ·rename_i u hs hd
  split at h
  case h_2=>cases h
  rename_i j hj
  split at h
  case isFalse=>cases h
  rename_i hc
  obtain rfl:=Option.some.inj h
  exact aeV st dt x ho u hs hd j hj _ hc.1 hc.2 hf hh hG
 ·cases h
theorem a40 {env:Env}{dst:Option Nat}{t xt:TypeId}{x y:Operand}{ao:iu} (ho:o.op= .call {callee:= .builtin .append,args:= #[x,y],argTypes:= #[t,xt]}) (h:R4 P env dst x y t xt=some ao) (hf:eo H a f) (hh:dv H s w) (hG:G ⟨P,kp⟩ ao f s K):eB P kp o a w H s K:=by
 unfold R4 at h
 split at h
 case h_2=>cases h
 rename_i e hu
 split at h
 case h_2=>cases h
 rename_i i hi
 split at h
 case h_2=>cases h
 rename_i z hz
 split at h
 case isFalse=>cases h
 rename_i hc
 obtain⟨jj,h1,h2,h3,h4,h5⟩:=hc
 obtain⟨d,qz,hd⟩: ∃d,P.underlying xt=some d∧((∃e',d= .slice e')∨d= .string):=by
  unfold a0v at jj
  split at jj
  ·rename_i e' Lr;exact⟨_,Lr,.inl ⟨e',rfl⟩⟩
  ·rename_i Lr;exact⟨_,Lr,.inr rfl⟩
  ·cases jj
 split at h
 ·split at h
  case isFalse=>cases h
  rename_i hk
  obtain rfl:=Option.some.inj h
  exact ac2 x y t xt d qz hd ho e hu i hi z hz h1 (by simpa only[List.all_eq_true] using h2) h3 h4 h5 hf hh hk.1 hk.2 hG
 ·split at h
  case isFalse=>cases h
  obtain rfl:=Option.some.inj h
  exact ZZ x y t xt d qz hd ho e hu i hi z hz h1 (by simpa only[List.all_eq_true] using h2) h3 h4 h5 hf hh hG
theorem a3T {env:Env}{dst:Option Nat}{c:Call}{ao:iu} (ho:o.op= .call c) (h:QC P env dst c=some ao) (hf:eo H a f) (hh:dv H s w) (hG:G ⟨P,kp⟩ ao f s K):eB P kp o a w H s K:=by
 obtain⟨callee,args,argTypes⟩:=c
 unfold QC at h
 split at h
 ·rename_i g x jd hx
  simp only at jd hx
  subst jd
  obtain rfl:=Cw hx
  split at h
  case isFalse=>cases h
  rename_i hc
  obtain rfl:=Option.some.inj h
  exact a9i g x argTypes ho hc.1 hc.2 hf hh hG
 ·rename_i u jd
  simp only at jd
  subst jd
  split at h
  case isFalse=>cases h
  rename_i hc
  obtain rfl:=Option.some.inj h
  exact a9c (.tmp u) args argTypes ho rfl (by simpa only[List.all_eq_true] using hc) hf hh hG
 ·rename_i x t jd hx ht
  simp only at jd hx ht
  subst jd
  obtain rfl:=Cw hx
  obtain rfl:=Cw ht
  split at h
  case isFalse=>cases h
  rename_i hc
  obtain rfl:=Option.some.inj h
  exact acb t x ho hc hf hh hG
 ·rename_i x y pt it jd hx ht
  simp only at jd hx ht
  subst jd
  obtain rfl:=uV hx
  obtain rfl:=uV ht
  split at h
  case h_2=>cases h
  rename_i e hp
  split at h
  case isFalse=>cases h
  rename_i hc
  obtain rfl:=Option.some.inj h
  exact acd pt it x y ho e hp hc.1 hc.2.1 hc.2.2 hf hh hG
 ·rename_i x y t xt jd hx ht
  simp only at jd hx ht
  subst jd
  obtain rfl:=uV hx
  obtain rfl:=uV ht
  exact a40 ho h hf hh hG
 ·cases h
theorem a4y {env:Env}{ao:iu} (h:Sj P env o=some ao) (hf:eo H a f) (hh:dv H s w) (hG:G ⟨P,kp⟩ ao f s K):eB P kp o a w H s K:=by
 unfold Sj at h
 split at h
 ·rename_i T ho
  split at h
  case isFalse=>cases h
  split at h
  case h_2=>cases h
  rename_i z hz
  obtain rfl:=Option.some.inj h
  obtain⟨i,v,hi,hv,rfl,db⟩:=N7 hz
  exact a7v T ho i hi v hv db hh hG
 ·rename_i t x y ho
  split at h
  case isFalse=>cases h
  split at h
  case h_2=>cases h
  rename_i n hn
  split at h
  case isFalse=>cases h
  rename_i hc
  obtain rfl:=Option.some.inj h
  exact a7t t x y ho n (a5Z hn) hc.1 hc.2.1 hc.2.2 hf hh hG
 ·rename_i g first cap ho
  split at h
  case isFalse=>cases h
  rename_i hc
  obtain rfl:=Option.some.inj h
  exact aeQ g first cap ho (by simpa only[List.all_eq_true] using hc.1) (by simpa only[List.all_eq_true] using hc.2) hf hh hG
 ·rename_i t x ho
  split at h
  case h_2=>cases h
  rename_i d hu
  split at h
  case isFalse=>cases h
  rename_i hc
  obtain rfl:=Option.some.inj h
  exact aeR t x ho d hu (Wp hc.1) hc.2 hf hh hG
 ·rename_i x t0 t ok ho
  split at h
  case h_2=>cases h
  rename_i d i hu hi
  split at h
  case h_2=>cases h
  rename_i z hz
  split at h
  case isFalse=>cases h
  rename_i hc
  obtain rfl:=Option.some.inj h
  exact ac6 x t0 t ok ho d hu (Wp hc.1) i hi z hz hc.2.1 hc.2.2 hf hh hG
 ·rename_i x ho
  split at h
  case isFalse=>cases h
  rename_i hc
  obtain rfl:=Option.some.inj h
  exact aeT x ho hc hf hh hG
 ·rename_i t x ho
  split at h
  case h_2=>cases h
  rename_i hu
  split at h
  case isFalse=>cases h
  rename_i hc
  obtain rfl:=Option.some.inj h
  exact ac9 t x ho hu hc hf hh hG
 ·rename_i x ho
  split at h
  case isFalse=>cases h
  rename_i hc
  obtain rfl:=Option.some.inj h
  exact aca x ho hc hf hh hG
 ·rename_i st dt x ho;exact a3Z ho h hf hh hG
 ·rename_i t x y yt ho;exact W7 (neg:=false) ho h hf hh hG
 ·rename_i t x y yt ho;exact W7 (neg:=true) ho h hf hh hG
 ·rename_i c ho;exact a3T ho h hf hh hG
 ·cases h
theorem a48 {ao:iu} (h:Rn P o.op=some ao) (hf:eo H a f) (hh:dv H s w) (hG:G ⟨P,kp⟩ ao f s K):eB P kp o a w H s K:=by
 have D8: ∀mt x k v,(o.op= .mapUpdate mt x k v∨o.op= .insert mt x k v)→(match P.underlying mt with
  |some (.map kt _)=>match tA P 20 kt with
   |some ks=>if I1 P kt ks=true∧cd x=true∧cd k=true∧cd v=true then some (.BS (By ks) x k v)else none
   |none=>none
  | _=>none)=some ao→eB P kp o a w H s K:=by
  intro mt x k v ho h
  split at h
  case h_2=>cases h
  rename_i kt et hm
  split at h
  case h_2=>cases h
  rename_i ks vY
  split at h
  case isFalse=>cases h
  rename_i hc
  obtain rfl:=Option.some.inj h
  exact aeZ mt kt et x k v ho hm (QD vY hc.1) hc.2.1 hc.2.2.1 hc.2.2.2 hf hh hG
 generalize rB:o.op=op at h
 unfold Rn at h
 split at h
 ·obtain rfl:=Option.some.inj h
  exact aeX _ rB hh hG
 ·split at h
  case h_2=>cases h
  rename_i kt et hm
  split at h
  case h_2=>cases h
  rename_i ks i vY hi
  split at h
  case h_2=>cases h
  rename_i z hz
  split at h
  case isFalse=>cases h
  rename_i hc
  obtain rfl:=Option.some.inj h
  exact aeY _ kt et _ _ _ rB hm (QD vY hc.1) hi hz (RV.ofConst H z hc.2.1) hc.2.2.1 hc.2.2.2 hf hh hG
 ·exact D8 _ _ _ _ (.inl rB) h
 ·exact D8 _ _ _ _ (.inr rB) h
 ·split at h
  case h_2=>cases h
  rename_i kt et hm
  split at h
  case h_2=>cases h
  rename_i ks i vY hi
  split at h
  case h_2=>cases h
  rename_i z hz
  split at h
  case isFalse=>cases h
  rename_i hc
  obtain rfl:=Option.some.inj h
  exact acf _ kt et _ _ rB hm (QD vY hc.1) hi hz (RV.ofConst H z hc.2.1) hc.2.2.1 hc.2.2.2 hf hh hG
 ·split at h
  case isFalse=>cases h
  rename_i hc
  obtain rfl:=Option.some.inj h
  exact af0 _ _ _ _ rB hc.1 hc.2.1 hc.2.2 hf hh hG
 ·cases h
theorem a3U {env:Env}{c:Call}{ao:iu} (ho:o.op= .call c) (h:QE P env c=some ao) (hf:eo H a f) (hh:dv H s w) (hG:G ⟨P,kp⟩ ao f s K):eB P kp o a w H s K:=by
 obtain⟨callee,args,argTypes⟩:=c
 unfold QE at h
 split at h
 ·rename_i x t jd hx ht
  simp only at jd hx ht
  subst jd
  obtain rfl:=Cw hx
  obtain rfl:=Cw ht
  split at h
  case h_2=>cases h
  rename_i e hu
  split at h
  case isFalse=>cases h
  rename_i hc
  obtain rfl:=Option.some.inj h
  exact acg t x ho e hu hc hf hh hG
 ·rename_i x t jd hx ht
  simp only at jd hx ht
  subst jd
  obtain rfl:=Cw hx
  obtain rfl:=Cw ht
  split at h
  case h_2=>cases h
  rename_i e hu
  split at h
  case h_2=>cases h
  rename_i i hi
  split at h
  case h_2=>cases h
  rename_i z hz
  split at h
  case isFalse=>cases h
  rename_i hc
  obtain rfl:=Option.some.inj h
  exact af2 t x ho e hu i hi z hz hc.1 (by simpa only[List.all_eq_true] using hc.2.1) hc.2.2.1 hc.2.2.2 hf hh hG
 ·rename_i x y t t' jd hx ht
  simp only at jd hx ht
  subst jd
  obtain rfl:=uV hx
  obtain rfl:=uV ht
  split at h
  case isFalse=>cases h
  split at h
  case h_2=>cases h
  rename_i e hu
  split at h
  case h_2=>cases h
  rename_i k hk
  split at h
  case isFalse=>cases h
  rename_i hc
  obtain rfl:=Option.some.inj h
  exact ach t t' x y ho e hu k hk hc.1 hc.2 hf hh hG
 ·rename_i x y t xt jd hx ht
  simp only at jd hx ht
  subst jd
  obtain rfl:=uV hx
  obtain rfl:=uV ht
  split at h
  case h_2=>cases h
  rename_i kn qz
  split at h
  case h_2=>cases h
  rename_i e hu
  split at h
  case h_2=>cases h
  rename_i i hi
  split at h
  case h_2=>cases h
  rename_i z hz
  split at h
  case isFalse=>cases h
  rename_i hc
  obtain rfl:=Option.some.inj h
  exact aci x y t xt kn qz ho e hu i hi z hz hc.1 (by simpa only[List.all_eq_true] using hc.2.1) hc.2.2.1 hc.2.2.2.1 hc.2.2.2.2 hf hh hG
 ·rename_i g x y jd hx
  simp only at jd hx
  subst jd
  obtain rfl:=uV hx
  split at h
  case isFalse=>cases h
  rename_i hc
  obtain rfl:=Option.some.inj h
  obtain⟨Gl,Gn,hy'⟩:=hc
  unfold a0w at Gl
  split at Gl
  case h_2=>cases Gl
  rename_i fn vU
  simp only[Bool.and_eq_true,beq_iff_eq,Option.isNone_iff_eq_none,Bool.not_eq_true']at Gl
  obtain⟨⟨⟨⟨⟨⟨⟨h1,h2⟩,h3⟩,h4⟩,h5⟩,h6⟩,h7⟩,h8⟩:=Gl
  split at h8
  case h_2=>cases h8
  rename_i t t' hp
  simp only[Bool.and_eq_true,beq_iff_eq]at h8
  obtain⟨rfl,h9⟩:=h8
  split at h9
  case h_2=>cases h9
  rename_i e hu
  obtain⟨ii,IT⟩:=Option.isSome_iff_exists.1 h9
  have agw:fn.params= #[t,t]:=uV hp
  have hn:Extern.findNext fn=none:=by simp[Extern.findNext,h1,h4,a7z]
  have he:Extern.find fn=some (Extern.SlicesOverlaps.overlaps #[t,t] fn.resultTypes):=by simp[Extern.find,h1,h5,h6,h7,a9g,a9h,agw]
  exact af4 g fn x y argTypes ho vU h3 (by rw[h2];rfl) hn t _ he e hu ii.size (by rw[IT];rfl) Gn hy' hf hh hG
 ·cases h
theorem a4z {env:Env}{ao:iu} (h:Sk P env o=some ao) (hf:eo H a f) (hh:dv H s w) (hG:G ⟨P,kp⟩ ao f s K):eB P kp o a w H s K:=by
 unfold Sk at h
 split at h
 ·rename_i t x lo hi mx ho
  split at h
  case isFalse=>cases h
  split at h
  case h_2=>cases h
  rename_i e hu
  split at h
  case h_2=>cases h
  rename_i k hk
  split at h
  case isFalse=>cases h
  rename_i hc
  obtain rfl:=Option.some.inj h
  exact af1 t x lo hi mx ho hc.2.2.2.2 e hu k hk hc.1 hc.2.1 hc.2.2.1 hc.2.2.2.1 hf hh hG
 ·rename_i c ho;exact a3U ho h hf hh hG
 ·cases h
theorem a4e {env:Env}{ao:iu} (h:RJ P env o=some ao) (hf:eo H a f) (hh:dv H s w) (hG:G ⟨P,kp⟩ ao f s K):eB P kp o a w H s K:=by
 unfold RJ at h
 split at h
 ·rename_i a' ha;obtain rfl:=Option.some.inj h;exact a4z ha hf hh hG
 split at h
 ·rename_i a' ha;obtain rfl:=Option.some.inj h;exact a48 ha hf hh hG
 ·split at h
  ·rename_i a' ha;obtain rfl:=Option.some.inj h;exact a4y ha hf hh hG
  ·exact a47 h hf hh hG
end
structure gi where
 dst:Option Nat
 op:iu
 guard:Option (Nat×Bool)
def E (P:Ctx) (x:gi) (f:Fr) (s:Hp) (K:AV→Hp→Prop):Prop:=
 match x.guard with
 |none=>G P x.op f s K
 |some (g,want)=>match f g with
  | .v (.bool b)=>if b=want then G P x.op f s K else K (.dr []) s
  | .dr []=>K (.dr []) s
  | _=>False
def T (P:Ctx) (x:gi) (K:Fr→Hp→Prop) (f:Fr) (s:Hp):Prop:=E P x f s fun r s'=>K (lO f x.dst r) s'
def z7 (P:Ctx):List gi→(Fr→Hp→Prop)→Fr→Hp→Prop
 | [],K=>K
 |x::r,K=>T P x (z7 P r K)
theorem Fy {P:Ctx}{x:gi}{f:Fr}{s:Hp}{K K':AV→Hp→Prop} (hk: ∀r s',K r s'→K' r s') (h:E P x f s K):E P x f s K':=by
 unfold E at*
 cases hg:x.guard with
 |none=>rw[hg]at h;exact ZX hk h
 |some gw=>
  obtain⟨g,want⟩:=gw
  rw[hg]at h
  simp only at h⊢
  split at h
  ·split at h
   ·next hb=>rw[if_pos hb];exact ZX hk h
   ·next hb=>rw[if_neg hb];exact hk _ _ h
  ·exact hk _ _ h
  ·exact h.elim
theorem Kl {P:Ctx}{x:gi}{f:Fr}{s:Hp}{K K':Fr→Hp→Prop} (hk: ∀f s',K f s'→K' f s') (h:T P x K f s):T P x K' f s:=Fy (fun _ _ h=>hk _ _ h) h
def tmpsOf (xs:List Operand):List Nat:=xs.filterMap fun| .tmp t=>some t| _=>none
def iu.operands:iu→List Operand
 | .mv x| .Ei x| .Db _ x| .Ej _ _ _ x| .Lg _ x| .KK _ x| .zp x| .Ag x| .Ek x| .BT x| .BU _ _ x| .KL x| .box _ x| .yX _ x| .D9 x| .CN x| .Ld x| .wX _ x| .load _ _ x| .df x| .fa _ x| .Lb _ _ _ x| .NZ x| .len x| .KI x| .un _ x| .jF _ x| .ext x _| .wS x| .AB _ _ x=> [x]
 | .pick c a b=> [c,a,b]
 | .alloc _ _| .A4 _ _| .zq| .KJ _=> []
 | .BR _ _ _ x k| .El _ _ x k=> [x,k]
 | .BS _ x k v| .Et x k v=> [x,k,v]
 | .eU _ first cap=>first++cap
 | .rn x args=>x::args
 | .store _ x y| .Fx _ x y| .CP _ x y| .Em _ x y| .En _ x y| .jD _ _ x y| .kA _ x y| .Im _ _ _ x y| .CM x y| .bin _ x y| .eqv _ _ x y| .Lc _ x y| .Ge _ x y| .app _ _ x y| .nh _ _ x y| .mm _ _ x y| .zo _ _ _ x y| .Da _ x y| .pD _ x y| .yZ _ _ _ x y| .zr x y=> [x,y]
 | .gf _ ps=>ps.map fun p=>p.2.2
 | .gL _ xs=>xs
 | .qw _ xs=>xs
 | .pI _ x lo hi| .BK _ _ x lo hi _| .yY _ _ x lo hi| .Io x lo hi=>x::(lo.toList++hi.toList)
 | .gu _ x lo hi mx=>x::(lo.toList++(hi.toList++mx.toList))
 | .bu _ args=>args
def gi.reads (x:gi):List Nat:=tmpsOf x.op.operands++(match x.guard with|some (g,_)=> [g]|none=> [])
theorem a7A {f f':Fr}{xs:List Operand} (h: ∀t∈tmpsOf xs,f t=f' t) {x:Operand} (hx:x∈xs):ev f x=ev f' x:=by
 cases x<;>first
  |rfl
  |exact h _ (List.mem_filterMap.2 ⟨_,hx,rfl⟩)
theorem Wq {f f':Fr}{Kc:List AV→Prop}: ∀(ps:List (Nat×Nat×Operand)) (cells:List AV),(∀p∈ps,ev f p.2.2=ev f' p.2.2)→(yU f cells ps Kc↔yU f' cells ps Kc)
 | [],_,_=>Iff.rfl
 |(off,sz,x)::r,cells,h=>by
  have hx:ev f x=ev f' x:=h _ (List.mem_cons_self)
  simp only[yU,hx]
  rw[Wq r _ (fun p hp=>h p (List.mem_cons_of_mem _ hp))]
theorem zV {f f':Fr}{x:Option Operand} (h: ∀y∈x.toList,ev f y=ev f' y) (d:Nat):mf f x d=mf f' x d:=by
 cases x with
 |none=>rfl
 |some y=>simp only[mf,h y (by simp)]
theorem YY {P:Ctx}{op:iu}{f f':Fr} (h: ∀t∈tmpsOf op.operands,f t=f' t) (s:Hp) (K:AV→Hp→Prop):G P op f s K↔G P op f' s K:=by
 have e: ∀x∈op.operands,ev f x=ev f' x:=fun x hx=>a7A h hx
 cases op<;>simp only[iu.operands,List.mem_cons,List.not_mem_nil,or_false,forall_eq_or_imp,forall_eq,List.mem_append]at e<;>simp only[G]
 case gf zero ps=>exact Wq ps zero (fun p hp=>e _ (List.mem_map.2 ⟨p,hp,rfl⟩))
 case gL k xs=>rw[List.map_congr_left e]
 case qw k xs=>rw[List.map_congr_left e]
 case bu fn args=>rw[List.map_congr_left e]
 case rn x args=>rw[e.1,List.map_congr_left e.2]
 case eU fn first cap=>rw[List.map_congr_left (fun y hy=>e y (.inl hy)),List.map_congr_left (fun y hy=>e y (.inr hy))]
 case pI k x lo hi=>simp only[e.1,zV (f:=f) (f':=f') (x:=lo) (fun y hy=>e.2 y (.inl hy)),zV (f:=f) (f':=f') (x:=hi) (fun y hy=>e.2 y (.inr hy))]
 case gu k x lo hi mx=>simp only[KM,e.1,zV (f:=f) (f':=f') (x:=lo) (fun y hy=>e.2 y (.inl hy)),zV (f:=f) (f':=f') (x:=hi) (fun y hy=>e.2 y (.inr (.inl hy))),zV (f:=f) (f':=f') (x:=mx) (fun y hy=>e.2 y (.inr (.inr hy)))]
 case BK k n x lo hi ro=>simp only[e.1,zV (f:=f) (f':=f') (x:=lo) (fun y hy=>e.2 y (.inl hy)),zV (f:=f) (f':=f') (x:=hi) (fun y hy=>e.2 y (.inr hy))]
 case yY k n x lo hi=>simp only[e.1,zV (f:=f) (f':=f') (x:=lo) (fun y hy=>e.2 y (.inl hy)),zV (f:=f) (f':=f') (x:=hi) (fun y hy=>e.2 y (.inr hy))]
 case Io x lo hi=>simp only[e.1,zV (f:=f) (f':=f') (x:=lo) (fun y hy=>e.2 y (.inl hy)),zV (f:=f) (f':=f') (x:=hi) (fun y hy=>e.2 y (.inr hy))]
 all_goals first
  |simp only[e]
  |simp only[e.1,e.2]
  |simp only[e.1,e.2.1,e.2.2]
  |rfl
theorem a9j {P:Ctx}{x:gi}{f f':Fr} (h: ∀t∈x.reads,f t=f' t) (s:Hp) (K:AV→Hp→Prop):E P x f s K↔E P x f' s K:=by
 have h1: ∀t∈tmpsOf x.op.operands,f t=f' t:=fun t ht=>h t (List.mem_append_left _ ht)
 unfold E
 cases hg:x.guard with
 |none=>exact YY h1 s K
 |some gw=>
  obtain⟨g,want⟩:=gw
  have h2:f g=f' g:=h g (List.mem_append_right _ (by simp[hg]))
  simp only[h2]
  split
  ·split
   ·exact YY h1 s K
   ·exact Iff.rfl
  ·exact Iff.rfl
  ·exact Iff.rfl
theorem a64 (f:Fr) (d:Nat) (r:AV):(lO f (some d) r) d=r:=by simp[lO,D8]
theorem YZ (f:Fr) (d:Option Nat) (r:AV) (t:Nat) (h:d≠some t):(lO f d r) t=f t:=by
 cases d with
 |none=>rfl
 |some d=>simp[lO,D8,Ne.symm (fun e=>h (by rw[e]):d≠t)]
theorem HD (f:Fr) (d e:Option Nat) (r u:AV) (h: ∀t,d=some t→e≠some t):lO (lO f d r) e u=lO (lO f e u) d r:=by
 cases d with
 |none=>rfl
 |some d=>
  cases e with
  |none=>rfl
  |some e=>
   have bI:d≠e:=fun he=>h d rfl (by rw[he])
   funext t
   simp only[lO,D8]
   by_cases h1:t=e<;>by_cases h2:t=d<;>simp_all
theorem A8 {P:Ctx}{x:gi} (d:Option Nat) (hd: ∀t,d=some t→t∉x.reads) (f:Fr) (r:AV) (s:Hp) (K:AV→Hp→Prop):E P x (lO f d r) s K↔E P x f s K:=
 a9j (fun t ht=>YZ f d r t (fun e=>hd t e ht)) s K
theorem Hp.mZ (s:Hp) {l l':Nat} (h:l≠l') (o o':Ob):(s.set l o).set l' o'=(s.set l' o').set l o:=by
 funext x
 simp only[Hp.set]
 by_cases h1:x=l'<;>by_cases h2:x=l<;>simp_all
theorem Hp.We (s:Hp) {l l':Nat} (h:l≠l') (o:Ob):(s.set l o).del l'=(s.del l').set l o:=by
 funext x
 simp only[Hp.set,Hp.del]
 by_cases h1:x=l'<;>by_cases h2:x=l<;>simp_all
theorem Hp.N8 (s:Hp) (l:Nat) (o:Ob) (h:s l=none):s.join (Hp.emp.set l o)=s.set l o:=by
 funext x
 simp only[Hp.join,Hp.set,Hp.emp]
 by_cases hx:x=l
 ·subst hx;simp[h]
 ·simp[hx]
theorem Hz (s:Hp) (l:Nat) (o:Ob):s.Il (Hp.emp.set l o)↔s l=none:=by
 constructor
 ·intro h
  rcases h l with h|h
  ·exact h
  ·simp[Hp.set]at h
 ·intro h x
  by_cases hx:x=l
  ·subst hx;exact .inl h
  ·right;simp[Hp.set,hx,Hp.emp]
def Km (l:Nat) (ob:Ob) (R:AV→Hp→Prop):AV→Hp→Prop:=fun r u=> ∃s',R r s'∧s' l=none∧u=s'.set l ob
theorem HO (s:Hp) {l l':Nat} (ob:Ob) (h:s l=none) {cs:List AV} (hr:s.read l'=some cs):(s.set l ob).read l'=some cs:=by
 have bI:l'≠l:=by rintro rfl;simp[Hp.read,h]at hr
 simpa[Hp.read,Hp.aX _ _ bI] using hr
theorem R7 (s:Hp) {l:Nat} (ob:Ob) (h:s l=none) {k:Nat}{y:AV}{r:Nat×List AV} (hr:hU s k y=some r):hU (s.set l ob) k y=some r:=by
 unfold hU at hr⊢
 split
 ·exact hr
 ·simp only at hr
  split at hr
  ·rename_i cs dF;rw[HO s ob h dF];exact hr
  ·cases hr
 ·simp only at hr
  split at hr
  ·rename_i cs dF;rw[HO s ob h dF];exact hr
  ·cases hr
 ·rename_i h1 h2 h3
  split at hr
  ·exact absurd rfl (h1 _ _)
  ·exact absurd rfl (h2 _ _ _ _)
  ·exact absurd rfl (h3 _ _ _ _)
  ·cases hr
theorem Yi (s:Hp) {l:Nat} (ob:Ob) (h:s l=none) {k:Nat}{y:AV}{r:Nat×List AV} (hr:Ah s k y=some r):Ah (s.set l ob) k y=some r:=by
 unfold Ah at hr⊢
 split
 ·exact hr
 ·rename_i h1
  split at hr
  ·exact absurd rfl (h1 _)
  ·exact R7 s ob h hr
theorem a7B (s:Hp) {l:Nat} (ob:Ob) (h:s l=none) {k:Nat}{z:List AV}{x:AV}{s':Hp} (hr:Ai k z x s=some s'):Ai k z x (s.set l ob)=some (s'.set l ob)∧s' l=none:=by
 unfold Ai at hr⊢
 split at hr
 ·rename_i l' off n k'
  split at hr
  case h_2=>cases hr
  rename_i cs dF
  have bI:l'≠l:=by rintro rfl;rw[h]at dF;cases dF
  split at hr
  case isFalse=>cases hr
  rename_i hc
  obtain rfl:=Option.some.inj hr
  rw[Hp.aX _ _ bI,dF]
  simp only[if_pos hc]
  exact⟨by rw[Hp.mZ s (Ne.symm bI) ob _],by rw[Hp.aX _ _ (Ne.symm bI)];exact h⟩
 ·obtain rfl:=Option.some.inj hr;exact⟨rfl,h⟩
 ·cases hr
theorem a7C (s:Hp) {l:Nat} (ob:Ob) (h:s l=none) {k:Nat}{x y:AV}{r:AV}{s':Hp} (hr:CQ k x y s=some (r,s')):CQ k x y (s.set l ob)=some (r,s'.set l ob)∧s' l=none:=by
 unfold CQ at hr⊢
 split at hr
 case h_2=>cases hr
 rename_i m ys xf
 rw[R7 s ob h xf]
 simp only
 split at hr
 ·rename_i l' off n k'
  split at hr
  case h_2=>cases hr
  rename_i cs dF
  have bI:l'≠l:=by rintro rfl;rw[h]at dF;cases dF
  split at hr
  case isFalse=>cases hr
  rename_i hc
  simp only[Option.some.injEq,Prod.mk.injEq]at hr
  obtain⟨rfl,rfl⟩:=hr
  rw[Hp.aX _ _ bI,dF]
  simp only[if_pos hc]
  exact⟨by rw[Hp.mZ s (Ne.symm bI) ob _],by rw[Hp.aX _ _ (Ne.symm bI)];exact h⟩
 ·rename_i l' n cap k'
  split at hr
  case h_2=>cases hr
  rename_i cs dF
  have bI:l'≠l:=by rintro rfl;rw[h]at dF;cases dF
  split at hr
  case isFalse=>cases hr
  rename_i hc
  simp only[Option.some.injEq,Prod.mk.injEq]at hr
  obtain⟨rfl,rfl⟩:=hr
  rw[Hp.aX _ _ bI,dF]
  simp only[if_pos hc]
  exact⟨by rw[Hp.mZ s (Ne.symm bI) ob _],by rw[Hp.aX _ _ (Ne.symm bI)];exact h⟩
 ·simp only[Option.some.injEq,Prod.mk.injEq]at hr
  obtain⟨rfl,rfl⟩:=hr
  exact⟨rfl,h⟩
 ·cases hr
theorem a7D (s:Hp) {l:Nat} (ob:Ob) (h:s l=none) {x y:AV}{r:AV} (hr:Aj x y s=some r):Aj x y (s.set l ob)=some r:=by
 have hc: ∀l',yM s l'=true→yM (s.set l ob) l'=true:=fun l' h1=>by
  have bI:l'≠l:=by rintro rfl;simp[yM,h]at h1
  unfold yM at h1⊢
  rw[Hp.aX _ _ bI];exact h1
 unfold Aj at hr⊢
 split at hr
 ·split at hr
  ·rename_i hh
   simp only[if_pos (⟨hh.1,hc _ hh.2.1,hc _ hh.2.2⟩: _∧ _∧ _)]
   exact hr
  ·cases hr
 ·cases hr
theorem Z0 {P:Ctx}{op:iu}{f:Fr}{s:Hp}{R:AV→Hp→Prop}{l:Nat}{ob:Ob} (hl:s l=none) (h:G P op f s R):G P op f (s.set l ob) (Km l ob R):=by
 have fin: ∀r,R r s→Km l ob R r (s.set l ob):=fun r hr=>⟨s,hr,hl,rfl⟩
 have new: ∀(l':Nat) (o':Ob) (r:AV),(s.set l ob) l'=none→(s l'=none→R r (s.set l' o'))→Km l ob R r ((s.set l ob).set l' o'):=fun l' o' r h1 h2=>by
  have bI:l≠l':=by rintro rfl;simp[Hp.set]at h1
  rw[Hp.aX _ _ (Ne.symm bI)]at h1
  exact⟨_,h2 h1,by rw[Hp.aX _ _ bI];exact hl,Hp.mZ s bI ob o'⟩
 cases op<;>simp only[G]at h⊢
 case bu fn args=>
  have:=vg.frame (t:=Hp.emp.set l ob) h ((Hz s l ob).2 hl)
  rw[Hp.N8 s l ob hl]at this
  refine this.mono (fun r u ⟨s',hR,hd,hu⟩=>⟨s',hR,(Hz s' l ob).1 hd,?_⟩) (fun _ _ h=>h)
  rw[hu,Hp.N8 s' l ob ((Hz s' l ob).1 hd)]
 case rn x args=>
  split at h
  case h_2=>exact h.elim
  refine⟨h.1,?_⟩
  have:=vg.frame (t:=Hp.emp.set l ob) h.2 ((Hz s l ob).2 hl)
  rw[Hp.N8 s l ob hl]at this
  refine this.mono (fun r u ⟨s',hR,hd,hu⟩=>⟨s',hR,(Hz s' l ob).1 hd,?_⟩) (fun _ _ h=>h)
  rw[hu,Hp.N8 s' l ob ((Hz s' l ob).1 hd)]
 case wS x=>split at h;(exact fin _ h);(exact h.elim)
 case gu=>split at h;(exact fin _ h);(exact h.elim)
 case AB k z x=>
  split at h
  case h_2=>exact h.elim
  rename_i s' iK
  obtain⟨e1,e2⟩:=a7B s ob hl iK
  rw[e1]
  exact⟨s',h,e2,rfl⟩
 case pD k x y=>
  split at h
  case h_2=>exact h.elim
  rename_i r s' iK
  obtain⟨e1,e2⟩:=a7C s ob hl iK
  rw[e1]
  exact⟨s',h,e2,rfl⟩
 case zr x y=>
  split at h
  case h_2=>exact h.elim
  rename_i r hr
  rw[a7D s ob hl hr]
  exact fin _ h
 case yZ k bytes z x y=>
  split at h
  ·split at h
   ·rename_i cs dF
    rw[HO s ob hl dF]
    exact⟨h.1,h.2.1,h.2.2.1,h.2.2.2.1,h.2.2.2.2.1,h.2.2.2.2.2.1,fun g cap sp h1 h2 h4 h6=>new g _ _ h1 (fun h5=>h.2.2.2.2.2.2 g cap sp h5 h2 h4 h6)⟩
   ·exact h.elim
  ·exact⟨h.1,h.2.1,h.2.2.1,h.2.2.2.1,h.2.2.2.2.1,fun g cap sp h1 h2 h4 h6=>new g _ _ h1 (fun h5=>h.2.2.2.2.2 g cap sp h5 h2 h4 h6)⟩
  ·exact h.elim
 case Ei x=>split at h;(exact⟨h.1,fun g cap sp h1 h2 h3 h4=>new g _ _ h1 (fun h5=>h.2 g cap sp h5 h2 h3 h4)⟩);(exact h.elim)
 case A4 T zero=>exact fun l' gX=>new l' _ _ gX (h l')
 case zq=>exact fun l' gX=>new l' _ _ gX (h l')
 case BR ok rs z x k=>
  split at h
  case h_2=>exact h.elim
  next l' cs he hk=>
  split at h
  case h_2=>exact h.elim
  next us clock hs=>
  have bI:l'≠l:=by rintro rfl;rw[hl]at hs;cases hs
  rw[Hp.aX _ _ bI,hs]
  obtain⟨g1,g2,g3⟩:=h
  refine⟨g1,g2,?_⟩
  revert g3
  cases kx us (.agg cs) 0 with
  |none=>exact fin _
  |some jv=>exact fin _
 case BS rs x k v=>
  split at h
  case h_2=>exact h.elim
  next l' cs he hk=>
  split at h
  case h_2=>exact h.elim
  next us clock hs=>
  have bI:l'≠l:=by rintro rfl;rw[hl]at hs;cases hs
  rw[Hp.aX _ _ bI,hs]
  exact⟨h.1,h.2.1,_,h.2.2,by rw[Hp.aX _ _ (Ne.symm bI)];exact hl,Hp.mZ s (Ne.symm bI) ob _⟩
 case El rs z x k=>
  split at h
  case h_2=>exact h.elim
  next l' cs he hk=>
  split at h
  case h_2=>exact h.elim
  next us clock hs=>
  have bI:l'≠l:=by rintro rfl;rw[hl]at hs;cases hs
  rw[Hp.aX _ _ bI,hs]
  exact⟨h.1,h.2.1,_,h.2.2,by rw[Hp.aX _ _ (Ne.symm bI)];exact hl,Hp.mZ s (Ne.symm bI) ob _⟩
 case Et x i v=>
  split at h
  case h_2=>exact h.elim
  next l' kd b he hk=>
  split at h
  case h_2=>exact h.elim
  next us clock hs=>
  have bI:l'≠l:=by rintro rfl;rw[hl]at hs;cases hs
  rw[Hp.aX _ _ bI,hs]
  simp only
  cases hb:FC us b with
  |none=>rw[hb]at h;exact h.elim
  |some j=>rw[hb]at h;exact⟨_,h,by rw[Hp.aX _ _ (Ne.symm bI)];exact hl,Hp.mZ s (Ne.symm bI) ob _⟩
 case Ag x=>split at h;(exact fun l' gX=>new l' _ _ gX (h l'));(exact h.elim)
 case zp x=>
  split at h
  case h_2=>exact h.elim
  obtain⟨s2,h1,h2⟩:=h
  refine⟨s2,fun l' o' ho=> ?_,h2⟩
  have:=h1 l' o' ho
  have bI:l'≠l:=by rintro rfl;rw[hl]at this;cases this
  rw[Hp.aX _ _ bI];exact this
 case Ej t ok z x=>
  split at h
  ·split
   ·next hd=>rw[if_pos hd]at h;exact fin _ h
   ·next hd=>rw[if_neg hd]at h;exact⟨h.1,fin _ h.2⟩
  ·exact⟨h.1,fin _ h.2⟩
  ·exact h.elim
 case Ek x=>
  split at h
  case h_2=>exact h.elim
  next l' off he=>
  refine⟨h.1,?_⟩
  have h2:=h.2
  split at h2
  case h_2=>exact h2.elim
  next t pos hs=>
  have bI:l'≠l:=by rintro rfl;rw[hl]at hs;cases hs
  rw[Hp.aX _ _ bI,hs]
  simp only
  split
  ·next hp=>rw[if_pos hp]at h2;exact⟨_,h2,by rw[Hp.aX _ _ (Ne.symm bI)];exact hl,Hp.mZ s (Ne.symm bI) ob _⟩
  ·next hp=>rw[if_neg hp]at h2;exact fin _ h2
 case CP neg x y=>
  have hc: ∀l',zZ s l'=true→zZ (s.set l ob) l'=true:=fun l' h=>by
   have bI:l'≠l:=by rintro rfl;simp[zZ,hl]at h
   unfold zZ at h⊢
   rw[Hp.aX _ _ bI];exact h
  split at h
  ·exact fin _ h
  ·exact fin _ h
  ·exact fin _ h
  ·exact⟨⟨hc _ h.1.1,hc _ h.1.2⟩,fin _ h.2⟩
  ·exact h.elim
 case BT x=>
  split at h
  ·split at h
   ·next cs dF=>rw[HO s ob hl dF];exact⟨h.1,fin _ h.2⟩
   ·exact h.elim
  ·exact h.elim
 case BU T n x=>
  split at h
  case h_2=>exact h.elim
  next l' off he=>
  refine⟨h.1,?_⟩
  have h2:=h.2
  split at h2
  case h_2=>exact h2.elim
  next T' cs hs=>
  have bI:l'≠l:=by rintro rfl;rw[hl]at hs;cases hs
  rw[Hp.aX _ _ bI,hs]
  exact⟨h2.1,h2.2.1,fin _ h2.2.2⟩
 case En e x y=>
  split at h
  ·exact⟨h.1,h.2.1,fin _ h.2.2⟩
  ·next l' off k n he kB=>
   refine⟨h.1,h.2.1,h.2.2.1,?_⟩
   have h3:=h.2.2.2
   split at h3
   case h_2=>exact h3.elim
   next T cs hs=>
   have bI:l'≠l:=by rintro rfl;rw[hl]at hs;cases hs
   rw[Hp.aX _ _ bI,hs]
   refine⟨h3.1,h3.2.1,h3.2.2.1,?_⟩
   have h4:=h3.2.2.2
   split at h4
   ·exact⟨_,h4,by rw[Hp.pY _ (Ne.symm bI)];exact hl,Hp.We s (Ne.symm bI) ob⟩
   ·exact h4.elim
  ·exact h.elim
 case Em e x y=>
  split at h
  case h_2=>exact h.elim
  rename_i m ys jj
  rw[Yi s ob hl jj]
  simp only
  split at h
  ·refine⟨h.1,h.2.1,h.2.2.1,?_⟩
   have h3:=h.2.2.2
   split
   ·next hn=>rw[if_pos hn]at h3;exact fin _ h3
   ·next hn=>rw[if_neg hn]at h3;exact fun g cap sp h1 h2 h4 h6=>new g _ _ h1 (fun h5=>h3 g cap sp h5 h2 h4 h6)
  ·next l' n cap k' he=>
   split at h
   case h_2=>exact h.elim
   rename_i T cs dF
   have bI:l'≠l:=by rintro rfl;rw[hl]at dF;cases dF
   rw[Hp.aX _ _ bI,dF]
   refine⟨h.1,h.2.1,h.2.2.1,h.2.2.2.1,?_⟩
   have h3:=h.2.2.2.2
   split
   ·next hn=>rw[if_pos hn]at h3;exact⟨_,h3,by rw[Hp.aX _ _ (Ne.symm bI)];exact hl,Hp.mZ s (Ne.symm bI) ob _⟩
   ·next hn=>rw[if_neg hn]at h3;exact fun g cap sp h1 h2 h4 h6=>new g _ _ h1 (fun h5=>h3 g cap sp h5 h2 h4 h6)
  ·exact h.elim
 case gf zero parts=>exact Qm (fun cs dF=>fin _ dF) _ _ h
 case alloc T zero=>exact fun l' gX=>new l' _ _ gX (h l')
 case box T x=>exact⟨h.1,fun l' gX=>new l' _ _ gX (h.2 l')⟩
 case yX T x=>exact⟨h.1,fun l' gX=>new l' _ _ gX (h.2 l')⟩
 case zo k bytes z x y=>split at h;(exact⟨h.1,h.2.1,h.2.2.1,h.2.2.2.1,fun l' gX=>new l' _ _ gX (h.2.2.2.2 l')⟩);(exact h.elim)
 case mm=>split at h;(exact⟨h.1,fin _ h.2⟩);(exact h.elim)
 case wX neg x=>
  split at h
  ·split at h
   ·exact fin _ h
   ·exact fin _ h
   ·exact⟨fun hx=>fin _ (h.1 hx),fin _ h.2⟩
  ·exact fin _ h
  ·exact h.elim
 case qw k xs=>
  refine⟨h.1,?_⟩
  split
  ·next hn=>rw[if_pos hn]at h;exact fin _ h.2
  ·next hn=>rw[if_neg hn]at h;exact fun l' gX=>new l' _ _ gX (h.2 l')
 case CN x=>
  split at h
  case h_2=>exact h.elim
  rename_i m xs jj
  rw[R7 s ob hl jj]
  simp only
  split at h
  ·exact fin _ h
  ·exact h.elim
 case nh k bytes x y=>
  split at h
  case h_2=>exact h.elim
  rename_i m ys jj
  rw[Yi s ob hl jj]
  simp only
  split at h
  ·refine⟨h.1,h.2.1,h.2.2.1,h.2.2.2.1,?_⟩
   have h3:=h.2.2.2.2
   split
   ·next hn=>rw[if_pos hn]at h3;exact fin _ h3
   ·next hn=>rw[if_neg hn]at h3;exact fun g cap sp h1 h2 h4 h6=>new g _ _ h1 (fun h5=>h3 g cap sp h5 h2 h4 h6)
  ·next l' n cap k' he=>
   split at h
   case h_3=>exact h.elim
   all_goals
   rename_i cs dF
   have bI:l'≠l:=by rintro rfl;rw[hl]at dF;cases dF
   rw[Hp.aX _ _ bI,dF]
   refine⟨h.1,h.2.1,h.2.2.1,h.2.2.2.1,?_⟩
   have h3:=h.2.2.2.2
   split
   ·next hn=>rw[if_pos hn]at h3;exact⟨_,h3,by rw[Hp.aX _ _ (Ne.symm bI)];exact hl,Hp.mZ s (Ne.symm bI) ob _⟩
   ·next hn=>rw[if_neg hn]at h3;exact fun g cap sp h1 h2 h4 h6=>new g _ _ h1 (fun h5=>h3 g cap sp h5 h2 h4 h6)
  ·exact h.elim
 case yY k n x lo hi=>
  split at h
  ·next l' off he=>
   split at h
   ·refine⟨h.1,h.2.1,h.2.2.1,?_⟩
    have h3:=h.2.2.2
    split at h3
    ·next cs dF=>
     have bI:l'≠l:=by rintro rfl;rw[hl]at dF;cases dF
     rw[Hp.aX _ _ bI,dF]
     exact⟨h3.1,fin _ h3.2⟩
    ·exact h3.elim
   ·exact h.elim
  ·exact h.elim
 case Da k x y=>
  split at h
  ·next l' off n k' ys ow he kB=>
   refine⟨h.1,h.2.1,?_⟩
   have h3:=h.2.2
   split at h3
   ·next cs dF=>
    have bI:l'≠l:=by rintro rfl;rw[hl]at dF;cases dF
    rw[Hp.aX _ _ bI,dF]
    exact⟨h3.1,_,h3.2,by rw[Hp.aX _ _ (Ne.symm bI)];exact hl,Hp.mZ s (Ne.symm bI) ob _⟩
   ·exact h3.elim
  ·next l' n cap k' ys ow he kB=>
   refine⟨h.1,h.2.1,?_⟩
   have h3:=h.2.2
   split at h3
   ·next cs dF=>
    have bI:l'≠l:=by rintro rfl;rw[hl]at dF;cases dF
    rw[Hp.aX _ _ bI,dF]
    exact⟨h3.1,_,h3.2,by rw[Hp.aX _ _ (Ne.symm bI)];exact hl,Hp.mZ s (Ne.symm bI) ob _⟩
   ·exact h3.elim
  ·exact h.elim
 case gL k xs=>
  refine⟨h.1,?_⟩
  split
  ·next hn=>rw[if_pos hn]at h;exact fin _ h.2
  ·next hn=>rw[if_neg hn]at h;exact fun l' gX=>new l' _ _ gX (h.2 l')
 case load agg n x=>
  split at h
  ·split at h
   ·next cs dF=>rw[HO s ob hl dF];exact⟨h.1,fin _ h.2⟩
   ·exact h.elim
  ·exact⟨h.1,fin _ h.2⟩
  ·exact h.elim
 case store n x y=>
  split at h
  ·next l' off he=>
   split at h
   case h_2=>exact h.elim
   next dF=>
    have bI:l'≠l:=by rintro rfl;rw[hl]at dF;cases dF
    rw[Hp.aX _ _ bI,dF]
    exact⟨h.1,h.2.1,_,h.2.2,by rw[Hp.aX _ _ (Ne.symm bI)];exact hl,Hp.mZ s (Ne.symm bI) ob _⟩
  ·exact h.elim
 case Fx n x y=>
  split at h
  ·next l' off he=>
   split at h
   case h_4=>exact h.elim
   all_goals
   next dF=>
    have bI:l'≠l:=by rintro rfl;rw[hl]at dF;cases dF
    rw[Hp.aX _ _ bI,dF]
    exact⟨h.1,h.2.1,_,h.2.2,by rw[Hp.aX _ _ (Ne.symm bI)];exact hl,Hp.mZ s (Ne.symm bI) ob _⟩
  ·exact h.elim
 case BK k n x lo hi ro=>
  split at h
  ·next l' off he=>
   split at h
   ·refine⟨h.1,h.2.1,h.2.2.1,?_⟩
    have h3:=h.2.2.2
    split at h3
    ·next cs dF=>
     have bI:l'≠l:=by rintro rfl;simp[Hp.read,hl]at dF
     rw[HO s ob hl dF]
     refine⟨h3.1,?_⟩
     have h4:=h3.2
     split
     ·next hr=>rw[if_pos hr]at h4;exact⟨_,h4,by rw[Hp.aX _ _ (Ne.symm bI)];exact hl,Hp.mZ s (Ne.symm bI) ob _⟩
     ·next hr=>rw[if_neg hr]at h4;exact⟨h4.1,fin _ h4.2⟩
    ·exact h3.elim
   ·exact h.elim
  ·exact h.elim
 case app k bytes x y=>
  split at h<;>try exact h.elim
  rename_i xs o ys o' _ _
  refine⟨h.1,h.2.1,h.2.2.1,h.2.2.2.1,?_⟩
  have h3:=h.2.2.2.2
  cases o<;>simp only at h3⊢
  case nil=>
   refine⟨h3.1,?_⟩
   split
   ·next hn=>rw[if_pos hn]at h3;exact fin _ h3.2
   ·next hn=>rw[if_neg hn]at h3;exact fun g c hg=>new g _ _ hg (fun h=>h3.2 g c h)
  case zero=>
   refine⟨h3.1,?_⟩
   split
   ·next hn=>rw[if_pos hn]at h3;exact fin _ h3.2
   ·next hn=>rw[if_neg hn]at h3;exact fun g c hg=>new g _ _ hg (fun h=>h3.2 g c h)
  case buf g c _=>
   have bI:g≠l:=by rintro rfl;rw[hl]at h3;cases h3.1
   refine⟨by rw[Hp.aX _ _ bI];exact h3.1,fun g' c' zz=> ?_⟩
   have Eh:g'≠l:=by
    rintro rfl
    rcases zz with h|h
    ·exact bI h.symm
    ·rw[Hp.bt]at h;cases h
   have Ey:g'=g∨s g'=none:=zz.imp id (fun h=>by rwa[Hp.aX _ _ Eh]at h)
   refine⟨_,h3.2 g' c' Ey,by rw[Hp.aX _ _ (Ne.symm Eh),Hp.pY _ (Ne.symm bI)];exact hl,?_⟩
   rw[Hp.We s (Ne.symm bI) ob,Hp.mZ _ (Ne.symm Eh) ob]
 case pick=>split at h;(exact fin _ h);(exact h.elim)
 case kA k x i=>
  split at h
  ·refine⟨h.1,?_⟩
   have h2:=h.2
   split at h2
   ·exact⟨h2.1,fin _ h2.2⟩
   ·exact h2.elim
  ·exact⟨h.1,h.2.1,h.2.2.1,fin _ h.2.2.2⟩
  ·exact⟨h.1,h.2.1,h.2.2.1,fin _ h.2.2.2⟩
  ·exact h.elim
 case CM x i=>
  split at h
  ·refine⟨h.1,?_⟩
   have h2:=h.2
   split at h2
   ·exact fin _ h2
   ·exact h2.elim
  ·exact h.elim
 all_goals
  (repeat' split at h)<;>first
   |exact h.elim
   |exact fin _ h
   |exact⟨h.1,fin _ h.2⟩
   |exact⟨h.1,h.2.1,fin _ h.2.2⟩
   |exact⟨h.1,h.2.1,h.2.2.1,fin _ h.2.2.2⟩
   |exact⟨h.1,h.2.1,h.2.2.1,h.2.2.2.1,fin _ h.2.2.2.2⟩
   |exact⟨h.1,h.2.1,h.2.2.1,h.2.2.2.1,h.2.2.2.2.1,fin _ h.2.2.2.2.2⟩
theorem Ro {P:Ctx}{x:gi}{f:Fr}{s:Hp}{R:AV→Hp→Prop}{l:Nat}{ob:Ob} (hl:s l=none) (h:E P x f s R):E P x f (s.set l ob) (Km l ob R):=by
 have fin: ∀r,R r s→Km l ob R r (s.set l ob):=fun r hr=>⟨s,hr,hl,rfl⟩
 unfold E at*
 cases hg:x.guard with
 |none=>rw[hg]at h;exact Z0 hl h
 |some gw=>
  obtain⟨g,want⟩:=gw
  rw[hg]at h
  simp only at h⊢
  split at h
  ·split at h
   ·next hb=>rw[if_pos hb];exact Z0 hl h
   ·next hb=>rw[if_neg hb];exact fin _ h
  ·exact fin _ h
  ·exact h.elim
def CE:iu→Bool
 | .AB _ _ _| .pD _ _ _| .yZ _ _ _ _ _| .zr _ _| .alloc _ _| .A4 _ _| .zq| .BR _ _ _ _ _| .BS _ _ _ _| .El _ _ _ _| .Et _ _ _| .Fx _ _ _| .Ag _| .Ek _| .zp _| .rn _ _| .Ei _| .Em _ _ _| .BT _| .BU _ _ _| .En _ _ _| .CP _ _ _| .box _ _| .yX _ _| .load _ _ _| .store _ _ _| .gL _ _| .BK _ _ _ _ _ _| .yY _ _ _ _ _| .app _ _ _ _| .bu _ _| .zo _ _ _ _ _| .Da _ _ _| .wX _ _| .qw _ _| .nh _ _ _ _| .CN _=>false
 | _=>true
def E4:iu→Bool
 | .load _ _ _| .yY _ _ _ _ _| .CN _| .BT _| .BU _ _ _| .CP _ _ _=>true
 | _=>false
def A1:iu→Bool
 | .alloc _ _| .A4 _ _| .zq| .Ag _| .box _ _| .yX _ _| .gL _ _| .qw _ _| .zo _ _ _ _ _=>true
 | _=>false
theorem Xx {f:Fr}: ∀(ps:List (Nat×Nat×Operand)) (cells:List AV) {Kc0:List AV→Prop},yU f cells ps Kc0→ ∃r,∀Kc:List AV→Prop,yU f cells ps Kc↔Kc r
 | [],cells,_,_=>⟨cells,fun Kc=>Iff.rfl⟩
 |(off,sz,x)::r,cells,_,h=>by
  obtain⟨r',h'⟩:=Xx r _ h.2.2
  exact⟨r',fun Kc=>⟨fun hh=>(h' Kc).1 hh.2.2,fun hh=>⟨h.1,h.2.1,(h' Kc).2 hh⟩⟩⟩
theorem Yj {P:Ctx}{op:iu} (h:CE op=true) {f:Fr}{s0:Hp}{K0:AV→Hp→Prop} (hG:G P op f s0 K0): ∃r,∀(s:Hp) (K:AV→Hp→Prop),G P op f s K↔K r s:=by
 cases op<;>simp only[CE,Bool.false_eq_true]at h<;>simp only[G]at hG⊢
 case pick=>split at hG;(exact⟨_,fun s K=>Iff.rfl⟩);(exact hG.elim)
 case wS=>split at hG;(exact⟨_,fun s K=>Iff.rfl⟩);(exact hG.elim)
 case gu=>split at hG;(exact⟨_,fun s K=>Iff.rfl⟩);(exact hG.elim)
 case gf zero parts=>
  obtain⟨r,hr⟩:=Xx _ _ hG
  exact⟨.agg r,fun s K=>hr _⟩
 case mm=>split at hG;(exact⟨_,fun s K=>⟨fun h=>h.2,fun h=>⟨hG.1,h⟩⟩⟩);(exact hG.elim)
 case Ej t ok z x=>
  split at hG
  ·split at hG
   ·next hd=>simp only[if_pos hd];exact⟨_,fun s K=>Iff.rfl⟩
   ·next hd=>simp only[if_neg hd];exact⟨_,fun s K=>⟨fun h=>h.2,fun h=>⟨hG.1,h⟩⟩⟩
  ·exact⟨_,fun s K=>⟨fun h=>h.2,fun h=>⟨hG.1,h⟩⟩⟩
  ·exact hG.elim
 case kA k x i=>
  split at hG
  ·have h2:=hG.2
   split at h2
   ·exact⟨_,fun s K=>⟨fun h=>h.2.2,fun h=>⟨hG.1,h2.1,h⟩⟩⟩
   ·exact h2.elim
  ·exact⟨_,fun s K=>⟨fun h=>h.2.2.2,fun h=>⟨hG.1,hG.2.1,hG.2.2.1,h⟩⟩⟩
  ·exact⟨_,fun s K=>⟨fun h=>h.2.2.2,fun h=>⟨hG.1,hG.2.1,hG.2.2.1,h⟩⟩⟩
  ·exact hG.elim
 case CM x i=>
  split at hG
  ·have h2:=hG.2
   split at h2
   ·exact⟨_,fun s K=>⟨fun h=>h.2,fun h=>⟨hG.1,h⟩⟩⟩
   ·exact h2.elim
  ·exact hG.elim
 all_goals
  (repeat' split at hG)<;>first
   |exact hG.elim
   |exact⟨_,fun s K=>Iff.rfl⟩
   |exact⟨_,fun s K=>⟨fun h=>h.2,fun h=>⟨hG.1,h⟩⟩⟩
   |exact⟨_,fun s K=>⟨fun h=>h.2.2,fun h=>⟨hG.1,hG.2.1,h⟩⟩⟩
   |exact⟨_,fun s K=>⟨fun h=>h.2.2.2,fun h=>⟨hG.1,hG.2.1,hG.2.2.1,h⟩⟩⟩
   |exact⟨_,fun s K=>⟨fun h=>h.2.2.2.2,fun h=>⟨hG.1,hG.2.1,hG.2.2.1,hG.2.2.2.1,h⟩⟩⟩
   |exact⟨_,fun s K=>⟨fun h=>h.2.2.2.2.2,fun h=>⟨hG.1,hG.2.1,hG.2.2.1,hG.2.2.2.1,hG.2.2.2.2.1,h⟩⟩⟩
theorem Yk {P:Ctx}{op:iu} (h:E4 op=true) {f:Fr}{s:Hp}{K0:AV→Hp→Prop} (hG:G P op f s K0): ∃r,∀(K:AV→Hp→Prop),G P op f s K↔K r s:=by
 cases op<;>simp only[E4,Bool.false_eq_true]at h<;>simp only[G]at hG⊢
 case load=>
  split at hG
  ·split at hG
   ·exact⟨_,fun K=>⟨fun h=>h.2,fun h=>⟨hG.1,h⟩⟩⟩
   ·exact hG.elim
  ·exact⟨_,fun K=>⟨fun h=>h.2,fun h=>⟨hG.1,h⟩⟩⟩
  ·exact hG.elim
 case yY=>
  split at hG
  ·split at hG
   ·have h3:=hG.2.2.2
    split at h3
    ·exact⟨_,fun K=>⟨fun h=>h.2.2.2.2,fun h=>⟨hG.1,hG.2.1,hG.2.2.1,h3.1,h⟩⟩⟩
    ·exact h3.elim
   ·exact hG.elim
  ·exact hG.elim
 case CN=>
  split at hG
  case h_2=>exact hG.elim
  split at hG
  ·exact⟨_,fun K=>Iff.rfl⟩
  ·exact hG.elim
 case BT=>
  split at hG
  ·split at hG
   ·exact⟨_,fun K=>⟨fun h=>h.2,fun h=>⟨hG.1,h⟩⟩⟩
   ·exact hG.elim
  ·exact hG.elim
 case BU=>
  split at hG
  case h_2=>exact hG.elim
  have h2:=hG.2
  split at h2
  ·exact⟨_,fun K=>⟨fun h=>h.2.2.2,fun h=>⟨hG.1,h2.1,h2.2.1,h⟩⟩⟩
  ·exact h2.elim
 case CP=>
  (repeat' split at hG)<;>first
   |exact hG.elim
   |exact⟨_,fun K=>Iff.rfl⟩
   |exact⟨_,fun K=>⟨fun h=>h.2,fun h=>⟨hG.1,h⟩⟩⟩
theorem Xy {P:Ctx}{op:iu} (h:A1 op=true) {f:Fr} (hG:G P op f Hp.emp fun _ _=>True):
  (∃r,∀(s:Hp) (K:AV→Hp→Prop),G P op f s K↔K r s)∨ ∃(mk:Nat→AV) (ob:Nat→Ob),∀(s:Hp) (K:AV→Hp→Prop),G P op f s K↔ ∀l,s l=none→K (mk l) (s.set l (ob l)):=by
 cases op<;>simp only[A1,Bool.false_eq_true]at h<;>simp only[G]at hG⊢
 case alloc T zero=>exact .inr ⟨_,_,fun s K=>Iff.rfl⟩
 case A4 T zero=>exact .inr ⟨_,fun _=> _,fun s K=>Iff.rfl⟩
 case zq=>exact .inr ⟨_,fun _=> _,fun s K=>Iff.rfl⟩
 case Ag x=>split at hG;(exact .inr ⟨_,fun _=> _,fun s K=>Iff.rfl⟩);(exact hG.elim)
 case box T x=>exact .inr ⟨_,fun _=> _,fun s K=>⟨fun h=>h.2,fun h=>⟨hG.1,h⟩⟩⟩
 case yX T x=>exact .inr ⟨_,fun _=> _,fun s K=>⟨fun h=>h.2,fun h=>⟨hG.1,h⟩⟩⟩
 case zo k bytes z x y=>split at hG;(exact .inr ⟨fun g=> .mb g _ _ k,fun _=> _,fun s K=>⟨fun h=>h.2.2.2.2,fun h=>⟨hG.1,hG.2.1,hG.2.2.1,hG.2.2.2.1,h⟩⟩⟩);(exact hG.elim)
 case gL k xs=>
  by_cases hn:xs.length=0
  ·simp only[if_pos hn]at hG⊢
   exact .inl ⟨_,fun s K=>⟨fun h=>h.2,fun h=>⟨hG.1,h⟩⟩⟩
  ·simp only[if_neg hn]at hG⊢
   exact .inr ⟨fun g=> .sl (xs.map (ev f)) (.buf g xs.length),fun _=> .buf k xs.length xs.length,fun s K=>⟨fun h=>h.2,fun h=>⟨hG.1,h⟩⟩⟩
 case qw k xs=>
  by_cases hn:xs.length=0
  ·simp only[if_pos hn]at hG⊢
   exact .inl ⟨_,fun s K=>⟨fun h=>h.2,fun h=>⟨hG.1,h⟩⟩⟩
  ·simp only[if_neg hn]at hG⊢
   exact .inr ⟨fun g=> .mb g xs.length xs.length k,fun _=> .cells (flat (xs.map (ev f))),fun s K=>⟨fun h=>h.2,fun h=>⟨hG.1,h⟩⟩⟩
theorem Xz {P:Ctx}{op:iu} (h:A1 op=true) {f:Fr}{s:Hp}{K:AV→Hp→Prop} (hG:G P op f s K):G P op f Hp.emp fun _ _=>True:=by
 cases op<;>simp only[A1,Bool.false_eq_true]at h<;>simp only[G]at hG⊢
 case alloc T zero=>exact fun _ _=>trivial
 case A4 T zero=>exact fun _ _=>trivial
 case zq=>exact fun _ _=>trivial
 case Ag x=>split at hG;(exact fun _ _=>trivial);(exact hG.elim)
 case box T x=>exact⟨hG.1,fun _ _=>trivial⟩
 case yX T x=>exact⟨hG.1,fun _ _=>trivial⟩
 case zo=>split at hG;(exact⟨hG.1,hG.2.1,hG.2.2.1,hG.2.2.2.1,fun _ _=>trivial⟩);(exact hG.elim)
 case gL k xs=>refine⟨hG.1,?_⟩;split;(trivial);(exact fun _ _=>trivial)
 case qw k xs=>refine⟨hG.1,?_⟩;split;(trivial);(exact fun _ _=>trivial)
def Def (P:Ctx) (x:gi) (f:Fr):Prop:=E P x f Hp.emp fun _ _=>True
theorem Qo {P:Ctx}{x:gi} (h:CE x.op=true) {f:Fr}{s0:Hp}{K0:AV→Hp→Prop} (hE:E P x f s0 K0): ∃r,∀(s:Hp) (K:AV→Hp→Prop),E P x f s K↔K r s:=by
 unfold E at*
 cases hg:x.guard with
 |none=>rw[hg]at hE;exact Yj h hE
 |some gw=>
  obtain⟨g,want⟩:=gw
  rw[hg]at hE
  simp only at hE⊢
  split at hE
  ·split at hE
   ·next hb=>simp only[if_pos hb];exact Yj h hE
   ·next hb=>simp only[if_neg hb];exact⟨_,fun s K=>Iff.rfl⟩
  ·exact⟨_,fun s K=>Iff.rfl⟩
  ·exact hE.elim
theorem ML {P:Ctx}{x:gi} (h:E4 x.op=true) {f:Fr}{s:Hp}{K0:AV→Hp→Prop} (hE:E P x f s K0): ∃r,∀(K:AV→Hp→Prop),E P x f s K↔K r s:=by
 unfold E at*
 cases hg:x.guard with
 |none=>rw[hg]at hE;exact Yk h hE
 |some gw=>
  obtain⟨g,want⟩:=gw
  rw[hg]at hE
  simp only at hE⊢
  split at hE
  ·split at hE
   ·next hb=>simp only[if_pos hb];exact Yk h hE
   ·next hb=>simp only[if_neg hb];exact⟨_,fun K=>Iff.rfl⟩
  ·exact⟨_,fun K=>Iff.rfl⟩
  ·exact hE.elim
theorem a4A {P:Ctx}{x:gi} (h:A1 x.op=true) {f:Fr}{s:Hp}{K:AV→Hp→Prop} (hE:E P x f s K):Def P x f:=by
 unfold Def
 unfold E at*
 cases hg:x.guard with
 |none=>rw[hg]at hE;exact Xz h hE
 |some gw=>
  obtain⟨g,want⟩:=gw
  rw[hg]at hE
  simp only at hE⊢
  split at hE
  ·split at hE
   ·next hb=>rw[if_pos hb];exact Xz h hE
   ·next hb=>rw[if_neg hb];trivial
  ·trivial
  ·exact hE.elim
theorem Wr {P:Ctx}{x:gi} (h:A1 x.op=true) {f:Fr} (hE:Def P x f):
  (∃r,∀(s:Hp) (K:AV→Hp→Prop),E P x f s K↔K r s)∨ ∃(mk:Nat→AV) (ob:Nat→Ob),∀(s:Hp) (K:AV→Hp→Prop),E P x f s K↔ ∀l,s l=none→K (mk l) (s.set l (ob l)):=by
 unfold Def at hE
 unfold E at*
 cases hg:x.guard with
 |none=>rw[hg]at hE;exact Xy h hE
 |some gw=>
  obtain⟨g,want⟩:=gw
  rw[hg]at hE
  simp only at hE⊢
  split at hE
  ·split at hE
   ·next hb=>simp only[if_pos hb];exact Xy h hE
   ·next hb=>simp only[if_neg hb];exact .inl ⟨_,fun s K=>Iff.rfl⟩
  ·exact .inl ⟨_,fun s K=>Iff.rfl⟩
  ·exact hE.elim
structure CO where
 i:Nat
 pre:List Nat
 qD:List Nat
section
variable (P:Ctx) (xs:Nat→gi)
def uD (j:Nat) (f:Fr) (s:Hp):Prop:=
 match (xs j).dst with
 |some d=>E P (xs j) f s fun r _=>r=f d
 |none=>True
def can (K:Fr→Hp→Prop):List CO→Fr→Hp→Prop
 | []=>K
 |c::r=>fun f s=>(∀j∈c.pre,Def P (xs j) f)∧T P (xs c.i) (fun f' s'=>(∀j∈c.qD,uD P xs j f' s')∧can K r f' s') f s
def clear (d:Option Nat) (l:List Nat):Bool:=match d with|some t=> !l.contains t|none=>true
def BA (d e:Option Nat):Bool:=match d,e with|some t,some u=>t !=u| _,_=>true
def indep (k i:CO) (rE:List Nat):Bool:=
  clear (xs k.i).dst (xs i.i).reads&&clear (xs i.i).dst (xs k.i).reads&&BA (xs k.i).dst (xs i.i).dst&&
  i.qD.all (fun j=>j==k.i||rE.contains j||(clear (xs k.i).dst (xs j).reads&&BA (xs k.i).dst (xs j).dst))&&
  ((k.pre.isEmpty&&k.qD.isEmpty&&(CE (xs k.i).op||(E4 (xs k.i).op&&((CE (xs i.i).op||E4 (xs i.i).op||A1 (xs i.i).op)||(i.qD.contains k.i&&clear (xs k.i).dst (xs k.i).reads&&(xs k.i).dst.isSome)))))||
   (i.qD.isEmpty&&(CE (xs i.i).op||A1 (xs i.i).op)&&k.pre.contains i.i&&k.pre.all (fun j=>clear (xs i.i).dst (xs j).reads)&&
     k.qD.all (fun j=>clear (xs i.i).dst (xs j).reads&&BA (xs i.i).dst (xs j).dst)))
variable {P xs}
theorem JR {d:Option Nat}{l:List Nat} (h:clear d l=true): ∀t,d=some t→t∉l:=by
 intro t ht;subst ht;simpa[clear] using h
theorem Ws {d e:Option Nat} (h:BA d e=true): ∀t,d=some t→e≠some t:=by
 intro t ht he;subst ht;subst he;simp[BA]at h
theorem Z1 {j:Nat}{d:Option Nat} (h1:clear d (xs j).reads=true) (h2:BA d (xs j).dst=true) (f:Fr) (r:AV) (s:Hp):uD P xs j (lO f d r) s↔uD P xs j f s:=by
 unfold uD
 cases hd:(xs j).dst with
 |none=>exact Iff.rfl
 |some dj=>
  simp only
  rw[A8 d (JR h1),YZ f d r dj (by
   intro he
   exact Ws h2 dj he hd)]
theorem a65 {j:Nat}{f:Fr}{s:Hp}{l:Nat}{ob:Ob} (hl:s l=none) (h:uD P xs j f s):uD P xs j f (s.set l ob):=by
 unfold uD at*
 cases hd:(xs j).dst with
 |none=>trivial
 |some dj=>
  rw[hd]at h
  exact Fy (fun r u ⟨s',hr,_,_⟩=>hr) (Ro hl h)
def Pass (xs:Nat→gi) (i:CO):List CO→Prop
 | []=>True
 |k::l1=>indep xs k i (l1.map (·.i))=true∧Pass xs i l1
theorem a01 {K:Fr→Hp→Prop} (i:CO) (l2:List CO): ∀(l1:List CO),Pass xs i l1→(l1.map (·.i)).Nodup→ ∀(f:Fr) (s:Hp),can P xs K (l1++i::l2) f s→
  T P (xs i.i) (fun f' s'=>(∀j∈i.qD,j∉l1.map (·.i)→uD P xs j f' s')∧can P xs K (l1++l2) f' s') f s
 | [],_,_,f,s,h=>Kl (fun f' s' hh=>⟨fun j hj _=>hh.1 j hj,hh.2⟩) h.2
 |k::l1,hk,IW,f,s,h=>by
  have hki:=hk.1
  have O2:(l1.map (·.i)).Nodup:=by simp only[List.map_cons,List.nodup_cons]at IW;exact IW.2
  have af7:k.i∉l1.map (·.i):=by simp only[List.map_cons,List.nodup_cons]at IW;exact IW.1
  have ih:=a01 (K:=K) i l2 l1 hk.2 O2
  obtain⟨a0S,hT⟩:=h
  simp only[indep,Bool.and_eq_true]at hki
  obtain⟨⟨⟨⟨a1,a2⟩,a3⟩,a4⟩,a0x⟩:=hki
  have c1:=JR a1
  have c2:=JR a2
  have c3:=Ws a3
  have a4': ∀j∈i.qD,j≠k.i→j∉l1.map (·.i)→clear (xs k.i).dst (xs j).reads=true∧BA (xs k.i).dst (xs j).dst=true:=fun j hj bI De=>by
   have:=List.all_eq_true.1 a4 j hj
   simp only[Bool.or_eq_true,beq_iff_eq,Bool.and_eq_true,List.contains_iff_mem]at this
   exact this.resolve_left (fun h=>h.elim bI De)
  have BZ:T P (xs k.i) (fun f' s'=>(∀j∈k.qD,uD P xs j f' s')∧T P (xs i.i) (fun f'' zn=>(∀j∈i.qD,j∉l1.map (·.i)→uD P xs j f'' zn)∧can P xs K (l1++l2) f'' zn) f' s') f s:=
   Kl (fun f' s' hh=>⟨hh.1,ih f' s' hh.2⟩) hT
  clear hT ih
  simp only[Bool.or_eq_true,Bool.and_eq_true]at a0x
  rcases a0x with ⟨⟨TN,Gf⟩,im⟩|⟨⟨⟨⟨hic,agx⟩,dP⟩,C0⟩,hca⟩
  ·
   have agy:k.pre= []:=List.isEmpty_iff.1 TN
   have agz:k.qD= []:=List.isEmpty_iff.1 Gf
   have tH: ∀(r:AV) (u:AV) (s':Hp),(∀K',E P (xs k.i) f s' K'↔K' r s')→
     ((∀j∈i.qD,j∉l1.map (·.i)→uD P xs j (lO (lO f (xs k.i).dst r) (xs i.i).dst u) s')∧can P xs K (l1++l2) (lO (lO f (xs k.i).dst r) (xs i.i).dst u) s')→
     (∀j∈i.qD,j∉(k::l1).map (·.i)→uD P xs j (lO f (xs i.i).dst u) s')∧can P xs K (k::l1++l2) (lO f (xs i.i).dst u) s':=fun r u s' hr hM=>by
    rw[HD f _ _ r u c3]at hM
    refine⟨fun j hj AD=> ?_,?_⟩
    ·simp only[List.map_cons,List.mem_cons,not_or]at AD
     have:=hM.1 j hj AD.2
     obtain⟨b1,b2⟩:=a4' j hj AD.1 AD.2
     rwa[Z1 b1 b2]at this
    ·refine⟨by rw[agy];simp,?_⟩
     unfold T
     rw[A8 _ c2]
     refine(hr _).2 ⟨by rw[agz];simp,hM.2⟩
   rcases im with af8|⟨Sm,agA⟩
   ·obtain⟨r,hr⟩:=Qo af8 BZ
    have h1:=(hr s _).1 BZ
    have h2:=h1.2
    unfold T at h2⊢
    rw[A8 _ c1]at h2
    exact Fy (fun u s' hM=>tH r u s' (fun K'=>hr s' K') hM) h2
   ·obtain⟨r,hr⟩:=ML Sm BZ
    have h1:=(hr _).1 BZ
    have h2:=h1.2
    unfold T at h2⊢
    rw[A8 _ c1]at h2
    rcases agA with IX|⟨⟨qx,af9⟩,Sn⟩
    ·rcases IX with IX|NY
     case inr=>
      rcases Wr NY (a4A NY h2)with ⟨u,hu⟩|⟨mk,ob,hu⟩
      ·rw[hu]at h2⊢
       exact tH r u s hr h2
      ·rw[hu]at h2⊢
       intro l hl
       refine tH r (mk l) _ ?_ (h2 l hl)
       have Dk:E P (xs k.i) f s fun r' _=>r'=r:=(hr _).2 rfl
       have lF:E P (xs k.i) f (s.set l (ob l)) fun r' _=>r'=r:=Fy (fun _ _ ⟨_,hh,_,_⟩=>hh) (Ro (ob:=ob l) hl Dk)
       obtain⟨r2,qB⟩:=ML Sm lF
       have OB:r2=r:=(qB _).1 lF
       subst OB
       exact qB
     have hi: ∃u,∀K':AV→Hp→Prop,E P (xs i.i) f s K'↔K' u s:=by
      rcases IX with hi|hi
      ·obtain⟨u,hu⟩:=Qo hi h2;exact⟨u,fun K'=>hu s K'⟩
      ·exact ML hi h2
     obtain⟨u,hu⟩:=hi
     rw[hu]at h2⊢
     exact tH r u s hr h2
    ·refine Fy (fun u s' hM=> ?_) h2
     have hck:=hM.1 k.i (by simpa using qx) af7
     obtain⟨dk,IY⟩:=Option.isSome_iff_exists.1 Sn
     have a0T:E P (xs k.i) f s' fun r' _=>r'=r:=by
      have:=hck
      rw[HD f _ _ r u c3]at this
      unfold uD at this
      rw[IY]at this
      simp only at this
      rw[a64,←IY,A8 _ (JR af9),A8 _ c2]at this
      exact this
     obtain⟨r2,qB⟩:=ML Sm a0T
     have OB:r2=r:=(qB _).1 a0T
     subst OB
     exact tH r2 u s' qB hM
  ·
   have a0U:i.qD= []:=List.isEmpty_iff.1 hic
   have O3:Def P (xs i.i) f:=a0S i.i (by simpa using dP)
   have FD:(∃r,∀(s:Hp) (K:AV→Hp→Prop),E P (xs i.i) f s K↔K r s)∨ ∃(mk:Nat→AV) (ob:Nat→Ob),∀(s:Hp) (K:AV→Hp→Prop),E P (xs i.i) f s K↔ ∀l,s l=none→K (mk l) (s.set l (ob l)):=by
    rcases agx with hi|hi
    ·exact .inl (Qo hi O3)
    ·exact Wr hi O3
   have a0y: ∀u,∀j∈k.pre,Def P (xs j) (lO f (xs i.i).dst u):=fun u j hj=>by
    unfold Def
    rw[A8 _ (JR (List.all_eq_true.1 C0 j hj))]
    exact a0S j hj
   have a0V: ∀j∈k.qD,∀(F:Fr) (u:AV) (S:Hp),uD P xs j F S→uD P xs j (lO F (xs i.i).dst u) S:=fun j hj F u S hh=>by
    have:=List.all_eq_true.1 hca j hj
    simp only[Bool.and_eq_true]at this
    rw[Z1 this.1 this.2];exact hh
   unfold T at BZ
   rcases FD with ⟨u,hu⟩|⟨mk,ob,hu⟩
   ·unfold T
    rw[hu]
    refine⟨fun j hj=>(by rw[a0U]at hj;cases hj),a0y u,?_⟩
    unfold T
    rw[A8 _ c2]
    refine Fy (fun v s1 hh=> ?_) BZ
    have h2:=hh.2
    rw[A8 _ c1,hu,HD f _ _ v u c3]at h2
    refine⟨fun j hj=> ?_,h2.2⟩
    rw[←HD f _ _ v u c3]
    exact a0V j hj _ _ _ (hh.1 j hj)
   ·unfold T
    rw[hu]
    intro l hl
    refine⟨fun j hj=>(by rw[a0U]at hj;cases hj),a0y (mk l),?_⟩
    unfold T
    rw[A8 _ c2]
    refine Fy (fun v S hS=> ?_) (Ro (ob:=ob l) hl BZ)
    obtain⟨s1,hh,rH,rfl⟩:=hS
    have h2:=hh.2
    rw[A8 _ c1,hu]at h2
    have h3:=h2 l rH
    rw[HD f _ _ v (mk l) c3]at h3
    refine⟨fun j hj=> ?_,h3.2⟩
    rw[←HD f _ _ v (mk l) c3]
    exact a0V j hj _ _ _ (a65 rH (hh.1 j hj))
def NF (sP:Nat→List Nat):Nat→List Nat→Nat→List Nat
 |0,acc,_=>acc
 |k+1,acc,n=>NF sP k (acc++ [(sP n).foldl (fun m j=>m|||2^j|||acc.getD j 0) 0]) (n+1)
def dep (bs:List Nat) (c i:Nat):Bool:=(bs.getD i 0).testBit c
def yV (xs:Nat→gi) (bs:List Nat) (k:CO):List Nat→List CO→Bool
 | _,[]=>true
 |rE,i::r=>(dep bs k.i i.i||indep xs k i rE)&&yV xs bs k (rE++ [i.i]) r
def CD (xs:Nat→gi) (bs:List Nat):List CO→Bool
 | []=>true
 |k::r=>yV xs bs k [] r&&CD xs bs r
def wK (ops:Array Oper) (i:Nat):List Nat:=
 match ops[i]? with
 |some o=>(o.after.toList.filter fun e=>Region.binds .any e).map (·.on)
 |none=> []
def O4 (P:Ctx) (xs:Nat→gi) (ops:Array Oper) (K:Fr→Hp→Prop):Nat→Array Bool→Fr→Hp→Prop
 |0,iV,f,s=>Region.ready .any ops iV= []∧K f s
 |fuel+1,iV,f,s=>(Region.ready .any ops iV= []→K f s)∧ ∀i∈Region.ready .any ops iV,T P (xs i) (O4 P xs ops K fuel (iV.setIfInBounds i true)) f s
def a02 (ops:Array Oper) (iV:Array Bool):Prop:= ∀i,i<ops.size→iV.getD i true=true→ ∀j∈wK ops i,iV.getD j false=true
theorem QF {ops:Array Oper}{i j:Nat}:j∈wK ops i↔ ∃o,ops[i]? =some o∧ ∃e∈o.after,Region.binds .any e=true∧e.on=j:=by
 unfold wK
 cases h:ops[i]? with
 |none=>simp
 |some o=>
  simp only[List.mem_map,List.mem_filter,Array.mem_toList_iff,Option.some.injEq,exists_eq_left']
  constructor
  ·rintro ⟨e,⟨h1,h2⟩,h3⟩;exact⟨e,h1,h2,h3⟩
  ·rintro ⟨e,h1,h2,h3⟩;exact⟨e,⟨h1,h2⟩,h3⟩
theorem MP {ops:Array Oper}{iV:Array Bool}{i:Nat}:i∈Region.ready .any ops iV↔iV.getD i true=false∧i<ops.size∧ ∀j∈wK ops i,iV.getD j false=true:=by
 rw[mem_ready]
 constructor
 ·rintro ⟨h0,o,ho,rr⟩
  refine⟨h0,(Array.getElem?_eq_some_iff.1 ho).1,fun j hj=> ?_⟩
  obtain⟨o',AI,e,he,hb,rfl⟩:=QF.1 hj
  rw[ho]at AI
  obtain rfl:=Option.some.inj AI
  exact rr e he hb
 ·rintro ⟨h0,aW,rr⟩
  exact⟨h0,ops[i],Array.getElem?_eq_getElem aW,fun e he hb=>rr _ (QF.2 ⟨_,Array.getElem?_eq_getElem aW,e,he,hb,rfl⟩)⟩
theorem a66 (l:List Nat) (acc:List Nat) (c:Nat): ∀m,(l.foldl (fun m j=>m|||2^j|||acc.getD j 0) m).testBit c=true→m.testBit c=true∨ ∃j∈l,c=j∨(acc.getD j 0).testBit c=true:=by
 induction l with
 |nil=>intro m h;exact .inl h
 |cons a l ih=>
  intro m h
  rw[List.foldl_cons]at h
  rcases ih _ h with h|⟨j,hj,h⟩
  ·simp only[Nat.testBit_or,Bool.or_eq_true]at h
   rcases h with (h|h)|h
   ·exact .inl h
   ·rw[Nat.testBit_two_pow]at h
    exact .inr ⟨a,List.mem_cons_self,.inl (by have:=of_decide_eq_true h;exact this.symm)⟩
   ·exact .inr ⟨a,List.mem_cons_self,.inr h⟩
  ·exact .inr ⟨j,List.mem_cons_of_mem _ hj,h⟩
def Bits (sP:Nat→List Nat) (bs:List Nat):Prop:= ∀i c,dep bs c i=true→ ∃j∈sP i,c=j∨(dep bs c j=true∧j<i)
theorem WV {sP:Nat→List Nat} (aW: ∀i j,j∈sP i→j<i): ∀(k:Nat) (acc:List Nat) (n:Nat),acc.length=n→Bits sP acc→Bits sP (NF sP k acc n)
 |0,acc,n,_,h=>h
 |k+1,acc,n,hl,h=>by
  refine WV aW k _ (n+1) (by simp[hl]) fun i c hc=> ?_
  have hold: ∀i,i<n→(acc++ [(sP n).foldl (fun m j=>m|||2^j|||acc.getD j 0) 0]).getD i 0=acc.getD i 0:=fun i hi=>by
   simp[List.getD,List.getElem?_append_left (show i<acc.length by omega)]
  unfold dep at hc⊢
  rcases Nat.lt_trichotomy i n with hi|hi|hi
  ·rw[hold i hi]at hc
   obtain⟨j,hj,h1⟩:=h i c hc
   refine⟨j,hj,h1.imp id fun h2=>⟨?_,h2.2⟩⟩
   rw[hold j (by omega)];exact h2.1
  ·subst hi
   have he:(acc++ [(sP i).foldl (fun m j=>m|||2^j|||acc.getD j 0) 0]).getD i 0=(sP i).foldl (fun m j=>m|||2^j|||acc.getD j 0) 0:=by
    rw[←hl];simp[List.getD]
   rw[he]at hc
   rcases a66 _ _ _ _ hc with h1|⟨j,hj,h1⟩
   ·simp at h1
   ·refine⟨j,hj,h1.imp id fun h2=>⟨?_,aW i j hj⟩⟩
    rw[hold j (aW i j hj)];exact h2
  ·rw[List.getD_eq_getElem?_getD,List.getElem?_eq_none (by simp;omega)]at hc
   simp at hc
theorem a58 {ops:Array Oper}{iV:Array Bool}{bs:List Nat} (hb:Bits (wK ops) bs) (hc:a02 ops iV) (fK:iV.size=ops.size): ∀(n c i:Nat),i≤n→dep bs c i=true→(∀j∈wK ops i,iV.getD j false=true)→iV.getD c false=true:=by
 intro n
 induction n with
 |zero=>
  intro c i hi h hp
  obtain⟨j,hj,rfl|⟨_,aW⟩⟩:=hb i c h
  ·exact hp _ hj
  ·omega
 |succ n ih=>
  intro c i hi h hp
  obtain⟨j,hj,rfl|⟨hd,aW⟩⟩:=hb i c h
  ·exact hp _ hj
  ·have Ls:=hp j hj
   have qV:j<iV.size:=by
    rcases Nat.lt_or_ge j iV.size with h|h
    ·exact h
    ·simp[Array.getElem?_eq_none h]at Ls
   refine ih c j (by omega) hd (hc j (by omega) ?_)
   simpa[qV] using Ls
theorem XA {bs:List Nat}{k i:CO}{l2:List CO}: ∀ {l1:List CO}{rE:List Nat},yV xs bs k rE (l1++i::l2)=true→dep bs k.i i.i=true∨indep xs k i (rE++l1.map (·.i))=true
 | [],rE,h=>by
  simp only[List.nil_append,yV,Bool.and_eq_true,Bool.or_eq_true]at h
  simpa using h.1
 |j::l1,rE,h=>by
  simp only[List.cons_append,yV,Bool.and_eq_true]at h
  have:=XA h.2
  simpa using this
theorem Wf {bs:List Nat}{i:CO}{l2:List CO}: ∀ {l1:List CO},CD xs bs (l1++i::l2)=true→(∀k∈l1,dep bs k.i i.i=false)→Pass xs i l1
 | [],_,_=>trivial
 |k::l1,h,hd=>by
  simp only[List.cons_append,CD,Bool.and_eq_true]at h
  refine⟨?_,Wf h.2 (fun k' oR=>hd k' (List.mem_cons_of_mem _ oR))⟩
  have:=XA h.1
  rw[hd k List.mem_cons_self]at this
  simpa using this
theorem a67 {k i:CO}{rE Iu:List Nat} (h:indep xs k i rE=true) (hm: ∀j,j∈rE→j∈Iu∨(clear (xs k.i).dst (xs j).reads=true∧BA (xs k.i).dst (xs j).dst=true)):indep xs k i Iu=true:=by
 simp only[indep,Bool.and_eq_true]at h⊢
 obtain⟨⟨⟨⟨a1,a2⟩,a3⟩,a4⟩,hc⟩:=h
 refine⟨⟨⟨⟨a1,a2⟩,a3⟩,?_⟩,hc⟩
 rw[List.all_eq_true]at a4⊢
 intro j hj
 have:=a4 j hj
 simp only[Bool.or_eq_true,beq_iff_eq,Bool.and_eq_true,List.contains_iff_mem]at this⊢
 rcases this with (h|h)|h
 ·exact .inl (.inl h)
 ·rcases hm j h with h|h
  ·exact .inl (.inr h)
  ·exact .inr h
 ·exact .inr h
theorem XB {bs:List Nat}{k:CO}: ∀ {l:List CO}{rE Iu:List Nat},yV xs bs k rE l=true→(∀j,j∈rE→j∈Iu∨(clear (xs k.i).dst (xs j).reads=true∧BA (xs k.i).dst (xs j).dst=true))→yV xs bs k Iu l=true
 | [],_,_,_,_=>rfl
 |i::l,rE,Iu,h,hm=>by
  simp only[yV,Bool.and_eq_true,Bool.or_eq_true]at h⊢
  refine⟨h.1.imp id (fun h=>a67 h hm),XB h.2 fun j hj=> ?_⟩
  rcases List.mem_append.1 hj with hj|hj
  ·rcases hm j hj with h|h
   ·exact .inl (List.mem_append_left _ h)
   ·exact .inr h
  ·exact .inl (List.mem_append_right _ hj)
theorem WW {bs:List Nat}{k i:CO}{l2:List CO} (hap:clear (xs k.i).dst (xs i.i).reads=true∧BA (xs k.i).dst (xs i.i).dst=true): ∀ {l1:List CO}{rE:List Nat},yV xs bs k rE (l1++i::l2)=true→yV xs bs k rE (l1++l2)=true
 | [],rE,h=>by
  simp only[List.nil_append,yV,Bool.and_eq_true]at h⊢
  refine XB h.2 fun j hj=> ?_
  rcases List.mem_append.1 hj with hj|hj
  ·exact .inl hj
  ·obtain rfl:j=i.i:=by simpa using hj
   exact .inr hap
 |j::l1,rE,h=>by
  simp only[List.cons_append,yV,Bool.and_eq_true]at h⊢
  exact⟨h.1,WW hap h.2⟩
theorem Wg {bs:List Nat}{i:CO}{l2:List CO}: ∀ {l1:List CO},CD xs bs (l1++i::l2)=true→Pass xs i l1→CD xs bs (l1++l2)=true
 | [],h,_=>by simp only[List.nil_append,CD,Bool.and_eq_true]at h⊢;exact h.2
 |k::l1,h,hp=>by
  simp only[List.cons_append,CD,Bool.and_eq_true]at h⊢
  have hi:=hp.1
  simp only[indep,Bool.and_eq_true]at hi
  exact⟨WW ⟨hi.1.1.1.1,hi.1.1.2⟩ h.1,Wg h.2 hp.2⟩
theorem a9k {ops:Array Oper}{K:Fr→Hp→Prop}{bs:List Nat} (Df:Bits (wK ops) bs) (aW: ∀i j,j∈wK ops i→j<i): ∀(fuel:Nat) (iV:Array Bool) (l:List CO),iV.size=ops.size→l.length≤fuel→
  (∀i,i∈l.map (·.i)↔(i<ops.size∧iV.getD i true=false))→(l.map (·.i)).Nodup→CD xs bs l=true→a02 ops iV→ ∀f s,can P xs K l f s→O4 P xs ops K fuel iV f s:=by
 have acj: ∀(iV:Array Bool) (l:List CO),iV.size=ops.size→(∀i,i∈l.map (·.i)↔(i<ops.size∧iV.getD i true=false))→Region.ready .any ops iV= []→l= []:=fun iV l fK hl hr=>by
  cases l with
  |nil=>rfl
  |cons c r=>
   exfalso
   have key: ∀m i,i≤m→i<ops.size→iV.getD i true=false→ ∃j,j∈Region.ready .any ops iV:=by
    intro m
    induction m with
    |zero=>
     intro i hi h1 h2
     refine⟨i,MP.2 ⟨h2,h1,fun j hj=> ?_⟩⟩
     have:=aW i j hj;omega
    |succ m ih=>
     intro i hi h1 h2
     by_cases rr: ∀j∈wK ops i,iV.getD j false=true
     ·exact⟨i,MP.2 ⟨h2,h1,rr⟩⟩
     ·simp only[Classical.not_forall]at rr
      obtain⟨j,hj,agB⟩:=rr
      have hji:=aW i j hj
      refine ih j (by omega) (by omega) ?_
      have qV:j<iV.size:=by omega
      cases hb:iV[j]with
      |true=>exact absurd (by simp[qV,hb]) agB
      |false=>simp[qV,hb]
   obtain⟨h1,h2⟩:=(hl c.i).1 (by simp)
   obtain⟨j,hj⟩:=key c.i c.i (Nat.le_refl _) h1 h2
   rw[hr]at hj;cases hj
 intro fuel
 induction fuel with
 |zero=>
  intro iV l fK hlen hl _ _ _ f s h
  have:l= []:=List.eq_nil_of_length_eq_zero (by omega)
  subst this
  refine⟨?_,h⟩
  cases hr:Region.ready .any ops iV with
  |nil=>rfl
  |cons i r=>
   exfalso
   have hi:i∈Region.ready .any ops iV:=by rw[hr];simp
   obtain⟨h1,h2,_⟩:=MP.1 hi
   have:=(hl i).2 ⟨h2,h1⟩
   simp at this
 |succ fuel ih=>
  intro iV l fK hlen hl IW cj im f s h
  refine⟨fun hr=> ?_,fun i hi=> ?_⟩
  ·have:=acj iV l fK hl hr
   subst this
   exact h
  ·obtain⟨h1,h2,h3⟩:=MP.1 hi
   have qx:=(hl i).2 ⟨h2,h1⟩
   obtain⟨c,hc,rfl⟩:=List.mem_map.1 qx
   obtain⟨l1,l2,rfl⟩:=List.append_of_mem hc
   have SI:(l1.map (·.i)++c.i::l2.map (·.i)).Nodup:=by simpa using IW
   have O2:(l1.map (·.i)).Nodup:=(List.nodup_append.1 SI).1
   have a0W:Pass xs c l1:=Wf cj fun k hk=>by
    cases hd:dep bs k.i c.i with
    |false=>rfl
    |true=>
     exfalso
     have Lt:=a58 Df im fK c.i k.i c.i (Nat.le_refl _) hd h3
     have oR:=((hl k.i).1 (by simp;exact .inl ⟨k,hk,rfl⟩)).2
     have:k.i<iV.size:=by
      rcases Nat.lt_or_ge k.i iV.size with h|h
      ·exact h
      ·simp[Array.getElem?_eq_none h]at Lt
     simp[this]at Lt oR
     rw[Lt]at oR;cases oR
   have hb:=a01 (K:=K) c l2 l1 a0W O2 f s h
   refine Kl (fun f' s' hh=> ?_) hb
   refine ih (iV.setIfInBounds c.i true) (l1++l2) (by simp[fK]) (by simp at hlen⊢;omega) (fun j=> ?_) ?_ (Wg cj a0W) ?_ f' s' hh.2
   ·have ack:c.i∉(l1++l2).map (·.i):=by
     have:=List.nodup_append.1 SI
     simp only[List.map_append,List.mem_append,not_or]
     refine⟨fun hx=>this.2.2 _ hx _ List.mem_cons_self rfl,(List.nodup_cons.1 this.2.1).1⟩
    by_cases IZ:c.i=j
    ·subst IZ
     constructor
     ·intro hx;exact absurd hx ack
     ·rintro ⟨q1,q2⟩
      have:c.i<iV.size:=by omega
      simp[this]at q2
    ·rw[getD_set_ne true IZ,←hl j]
     simp only[List.map_append,List.map_cons,List.mem_append,List.mem_cons]
     constructor
     ·rintro (q|q)
      ·exact .inl q
      ·exact .inr (.inr q)
     ·rintro (q|rfl|q)
      ·exact .inl q
      ·exact absurd rfl IZ
      ·exact .inr q
   ·have:=List.nodup_append.1 SI
    rw[List.map_append,List.nodup_append]
    refine⟨O2,(List.nodup_cons.1 this.2.1).2,fun a ha b hb=>this.2.2 a ha b (List.mem_cons_of_mem _ hb)⟩
   ·intro j hj Ls k hk
    by_cases IZ:c.i=j
    ·subst IZ;exact getD_set_true (h3 k hk)
    ·rw[getD_set_ne true IZ]at Ls
     exact getD_set_true (im j hj Ls k hk)
end
end Go.Av
