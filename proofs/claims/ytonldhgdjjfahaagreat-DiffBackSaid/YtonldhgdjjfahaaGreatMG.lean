import Derived.Test.YtonldhgdjjfahaaGreatMF
set_option linter.all false
set_option maxRecDepth 100000
namespace Go.Proofs.YtonldhgdjjfahaaGreat
open Go Go.Av
def xV (d:Nat) (p:List Int) (S:bW) (k:Kd):Except Int Kd×bW:=
 if k=cO then(.error 9,S)
 else match sX d p (k.size.toNat+1) S k with
  |(.error e,S')=>(.error e,S')
  |(.ok x,S')=>
   if x.leaf=true∧x.rows.length=0 then(.ok cO,S')
   else if x.leaf=false∧x.kids.length=1 then(.ok (x.kids.headD cO),S')
   else BI S' d x.leaf x.rows x.kids
theorem a4q (s:Hp) (l lM:Nat) (S:bW) (hS:eC s l lM S) (k:Kd) (o1 o2 o3:Own) (gQ:k.sum.length=32) (mj:k.Sh) (p:List Int) (op:Own) (d:Nat) (bq:1≤d) (bg:d≤8) (hp:p.length=d):
  AC Tryz.prog 19 [.ptr l 0,.agg (aS k o1 o2 o3),.sl (bA p) op,.v (.int .i64 (d:Int))] s fun r s'=>eC s' l lM (xV d p S k).2∧Ext l lM s s'∧zE (xV d p S k).1 r:=by
 refine cR hm acy (by simp) ?_
 have e0: ∀cs,(AV.agg cs).cells=cs:=fun _=>rfl
 have kC: ∀a b,cK true 2 [a,b]= .agg [a,b]:=fun _ _=>rfl
 have t2: ∀a b:AV,List.take 2 [a,b]= [a,b]:=fun _ _=>rfl
 have p2: ∀a b x y:AV,putAt [a,b] 0 [x,y]= [x,y]:=fun _ _ _ _=>rfl
 have l2: ∀a b:AV,[a,b].length=2:=fun _ _=>rfl
 have u0: ∀a b x:AV,putAt [a,b] 0 [x]= [x,b]:=fun _ _ _=>rfl
 have u1: ∀a b x:AV,putAt [a,b] 1 [x]= [a,x]:=fun _ _ _=>rfl
 have hK:=eA (o1:=o1) (o2:=o2) (o3:=o3) gQ
 have fL:=hK.len
 have zl:=(eA (o1:= .nil) (o2:= .nil) (o3:= .nil) eY).len
 refine sr (c2 @e0 @fL) ?_
 refine cP fun x5 n5=> ?_
 refine sr (c3 @e0 @fL @fl) ?_
 refine cP fun x8 n8=> ?_
 have d58:x5≠x8:=by rintro rfl;rw[Hp.bt]at n8;cases n8
 have nV:s x8=none:=by rw[Hp.aX _ _ (Ne.symm d58)]at n8;exact n8
 obtain⟨B,hB⟩: ∃B:Hp,B=(s.set x5 (.cells (aS k o1 o2 o3))).set x8 (.cells (aS cO .nil .nil .nil)):=⟨_,rfl⟩
 have dm:s.sub B:=by rw[hB];exact Hp.bT (Hp.bT Hp.aH n5) nV
 have c8:B x8=some (.cells (aS cO .nil .nil .nil)):=by rw[hB,Hp.bt]
 have c5:B x5=some (.cells (aS k o1 o2 o3)):=by rw[hB,Hp.aX _ _ d58,Hp.bt]
 refine sr (c3 @e0 @fL @fl) ?_
 rw[←hB]
 have qY:=hS.lY nV
 refine ik Hp.aH (by simp[dS,AV.cells]) fun og sg hg=> ?_
 have mg:cn isRow [p] [AV.sl (bA p) op]:=⟨⟨op,rfl⟩,trivial⟩
 refine sr (c3 @e0 @fL @fl) ?_
 refine bC (Qv d [p] _ _ sg mg (Sl.sl (mg.cells fun _ _=>isRow.cells)) (by simp)) ?_
 rintro _ sg ⟨rfl,rfl⟩
 have hr:E5 (d:Int) [p]=true:=by
  unfold E5
  simp only[List.all_cons,List.all_nil,Bool.and_true,Bool.and_eq_true,decide_eq_true_eq];omega
 rw[hr]
 have tT:=hg.sub
 have k8:=tT _ _ c8
 have k5:=tT _ _ c5
 have zt:=(eA (o1:= .nil) (o2:= .nil) (o3:= .nil) eY).t37
 have uF:putAt (aS cO .nil .nil .nil) 0 (aS cO .nil .nil .nil)=aS cO .nil .nil .nil:=jV eY eY
 have Gh:=Hp.cy dm tT
 simp -dsimp -implicitDefEqProofs (disch:=first|omega|assumption|(simp only[rL,Nat.reduceAdd];try omega)) only[go_sem,simprocAttr,-List.reduceReplicate,e0,Bool.not_true,fl,Hp.aV k5,hK.t37]
 refine bC (JO k o1 o2 o3 sg gQ mj) ?_
 rintro _ sg ⟨rfl,rfl⟩
 obtain⟨Q,hQ⟩: ∃Q,Q=xV d p S k:=⟨_,rfl⟩
 rw[←hQ]
 unfold xV at hQ
 by_cases hz:k=cO
 ·rw[if_pos hz]at hQ
  subst hQ
  refine sr (c7 @e0 @hz @fl (Hp.dG k8) @uF @zl @zt) ?_
  exact⟨_,Hp.aH,(hS.mono Gh).set qY,(Ext.of Gh).set nV,by decide,rfl⟩
 rw[if_neg hz]at hQ
 refine sr (c6 @e0 @hz @u0 @u1 @l2 @p2) ?_
 refine cP fun nH iL=> ?_
 have Ux:x5≠nH:=by rintro rfl;rw[k5]at iL;cases iL
 have NR:=Hp.iJ Gh iL
 obtain⟨C,hC⟩: ∃C:Hp,C=sg.set nH (.cells [.ptr l 0,.v (.int .i64 (d:Int))]):=⟨_,rfl⟩
 have GI:sg.sub C:=by rw[hC];exact Hp.bT Hp.aH iL
 have zG:=Hp.cy Gh GI
 have q5:=GI _ _ k5
 have q8:=GI _ _ k8
 have EI:C nH=some (.cells [.ptr l 0,.v (.int .i64 (d:Int))]):=by rw[hC,Hp.bt]
 have r5: ∀ob,(sg.set nH ob).read x5=some (aS k o1 o2 o3):=fun ob=>Hp.aV (by rw[Hp.aX _ _ Ux];exact k5)
 refine sr (gP @e0 @p2 @l2 @Hp.set_set @Hp.bt @r5 hK.t37 @fL @kC @t2) ?_
 rw[←hC]
 have OZ:=hS.mono zG
 refine bC (a51 l lM p op d bq bg (k.size.toNat+1) C S k o1 o2 o3 OZ gQ mj (by omega) (by omega)) ?_
 intro r s6 hR
 generalize sX d p (k.size.toNat+1) S k=pr at hR hQ
 obtain⟨res,S'⟩:=pr
 obtain⟨kJ,mT,hR⟩:=hR
 simp only at kJ hQ
 have j8:=mT _ _ qY.1 qY.2 q8
 have qy:=hS.lY NR
 have tS:=mT _ _ qy.1 qy.2 EI
 have p3: ∀a b c x y z:AV,putAt [a,b,c] 0 [x,y,z]= [x,y,z]:=fun _ _ _ _ _ _=>rfl
 have l3: ∀a b c:AV,[a,b,c].length=3:=fun _ _ _=>rfl
 have em: ∀a b c,cK true 3 [a,b,c]= .agg [a,b,c]:=fun _ _ _=>rfl
 have t3: ∀a b c:AV,List.take 3 [a,b,c]= [a,b,c]:=fun _ _ _=>rfl
 have m0: ∀a b c:AV,cK false 1 [a,b,c]=a:=fun _ _ _=>rfl
 have m1: ∀a b c:AV,cK false 1 ([a,b,c].drop 1)=b:=fun _ _ _=>rfl
 have m2: ∀a b c:AV,cK false 1 ([a,b,c].drop 2)=c:=fun _ _ _=>rfl
 cases res with
 |error e=>
  obtain⟨he,b,vt,C8,rfl⟩:=hR
  simp only at hQ
  subst hQ
  refine sr (c3 @e0 @p3 @l3) ?_
  refine cP fun xu qk=> ?_
  have D2:=kJ.lY qk
  have d11:x8≠xu:=by rintro rfl;rw[j8]at qk;cases qk
  have a1j:s xu=none:=by
   cases hq:s xu with
   |none=>rfl
   |some o=>have:=mT _ _ D2.1 D2.2 (zG _ _ hq);rw[qk]at this;cases this
  have a8: ∀ob,rI (s6.set xu ob) x8=some (aS cO .nil .nil .nil):=fun ob=>Hp.dG (by rw[Hp.aX _ _ d11];exact j8)
  refine sr (oS @e0 @p3 @l3 @em @t3 @Hp.set_set @he @fl @a8 @uF @zl @zt) ?_
  exact⟨_,Hp.aH,(kJ.set D2).set qY,((((Ext.of zG).trans mT).set a1j).set nV),he,rfl⟩
 |ok x=>
  obtain⟨vt,C8,tU,zD,rfl,hP⟩:=hR
  simp only at hQ
  refine sr (c3 @e0 @p3 @l3) ?_
  refine cP fun xu qk=> ?_
  have D2:=kJ.lY qk
  have d11:x8≠xu:=by rintro rfl;rw[j8]at qk;cases qk
  have aoV:nH≠xu:=by rintro rfl;rw[tS]at qk;cases qk
  have a1j:s xu=none:=by
   cases hq:s xu with
   |none=>rfl
   |some o=>have:=mT _ _ D2.1 D2.2 (zG _ _ hq);rw[qk]at this;cases this
  obtain⟨s7,J7⟩: ∃s7:Hp,s7=s6.set xu (.cells [.v (.bool x.leaf),vt,C8]):=⟨_,rfl⟩
  have DE:s6.sub s7:=by rw[J7];exact Hp.bT Hp.aH qk
  have kg:s7 xu=some (.cells [.v (.bool x.leaf),vt,C8]):=by rw[J7,Hp.bt]
  have i8:=DE _ _ j8
  have i10:=DE _ _ tS
  have a8: ∀ob,rI (s6.set xu ob) x8=some (aS cO .nil .nil .nil):=fun ob=>Hp.dG (by rw[Hp.aX _ _ d11];exact j8)
  have mD:=kJ.mono DE
  have nG:Ext l lM s s7:=((Ext.of zG).trans mT).trans (Ext.of DE)
  simp -dsimp -implicitDefEqProofs (disch:=first|omega|assumption|(simp only[rL,Nat.reduceAdd];try omega)) only[go_sem,simprocAttr,-List.reduceReplicate,e0,p3,l3,em,t3,m0,Hp.set_set,Hp.bt]
  rw[Hp.set_set,←J7]
  have hlr:=hP.lr;have Lt:=hP.lk
  have lax:=hP.cr.len
  have lay:=hP.ck.len
  cases GJ:x.leaf with
  |true=>
   rw[GJ]at kg hQ
   simp -dsimp -implicitDefEqProofs (disch:=first|omega|assumption|(simp only[rL,Nat.reduceAdd];try omega)) only[go_sem,simprocAttr,-List.reduceReplicate,e0,Hp.aV kg,m1,m2,lax]
   by_cases si:(x.rows.length:Int)=0
   ·have Ta:x.rows.length=0:=by omega
    refine sr (c7 @e0 @si @fl (Hp.dG i8) @uF @zl @zt) ?_
    refine⟨_,Hp.aH,?_⟩
    rw[if_pos ⟨rfl,Ta⟩]at hQ
    subst hQ
    exact⟨mD.set qY,nG.set nV,eY,RQ,.nil,.nil,.nil,rfl⟩
   have Ta: ¬x.rows.length=0:=by omega
   rw[if_neg (fun h=>Ta h.2),if_neg (fun h=>by cases h.1)]at hQ
   subst hQ
   refine sr (oS @e0 @si (Hp.aV kg) (Hp.aV i10) @m0 @m1 @m2 @Bool.not_true @em @kC @t2 @t3) ?_
   refine bC (QQ s7 l lM S' mD true x.rows tU vt x.kids zD C8 d bq bg hP.r (hP.sr.mono DE) (by omega) hP.k (hP.sk.mono DE) (by omega)) ?_
   rintro r s9 ⟨xq,wh,hR⟩
   have v8:=wh _ _ qY.1 qY.2 i8
   obtain⟨k',w1,w2,w3,e,hk,rfl⟩:=hR.shape
   have hJ:=eA (o1:=w1) (o2:=w2) (o3:=w3) hk
   have iM:=hJ.len
   have pz:putAt (aS cO .nil .nil .nil) 0 (aS k' w1 w2 w3)=aS k' w1 w2 w3:=jV eY hk
   refine sr (c6 @e0 (Hp.dG v8) @pz @iM @zl hJ.t37) ?_
   exact⟨_,Hp.aH,xq.set qY,(nG.trans wh).set nV,hR⟩
  |false=>
   rw[GJ]at kg hQ
   simp -dsimp -implicitDefEqProofs (disch:=first|omega|assumption|(simp only[rL,Nat.reduceAdd];try omega)) only[go_sem,simprocAttr,-List.reduceReplicate,e0,Hp.aV kg,m0,m1,m2,lax,lay,Bool.not_false]
   by_cases zv:(x.kids.length:Int)=1
   ·have Tb:x.kids.length=1:=by omega
    have hw:x.kids[0]? =some x.kids[0]:=List.getElem?_eq_getElem (by omega)
    have hh: ∀k1,x.kids[0]? =some k1→x.kids.headD cO=k1:=fun k1 h=>by
     cases hq:x.kids with
     |nil=>rw[hq]at h;cases h
     |cons a b=>rw[hq]at h;simpa using h
    generalize x.kids[0]'(by omega)=k1 at hw
    have hh:=hh k1 hw
    obtain⟨ca,iB,Tc,aiu,w1,w2,w3,rfl⟩:=hP.k.get hw
    obtain⟨p9,e9,gl⟩:=(hP.sk.mono DE).get 0 _ iB
    have z9:((0:Nat):Int)=0:=rfl
    rw[z9]at e9
    have hC:=eA (o1:=w1) (o2:=w2) (o3:=w3) Tc
    have GL:=hC.len
    rw[e0]at gl
    have gj:=gl.ld s7 Hp.aH true 37 (by omega) (by rw[hC.len];omega)
    rw[show cK true 37 (aS k1 w1 w2 w3)= .agg (aS k1 w1 w2 w3) by rw[cK,if_pos rfl,hC.t37]]at gj
    have pz:putAt (aS cO .nil .nil .nil) 0 (aS k1 w1 w2 w3)=aS k1 w1 w2 w3:=jV eY Tc
    refine sr (qE @e0 @zv (Hp.aV kg) @m0 @m1 @m2 @e9 @gj (Hp.dG i8) @pz @zl @GL hC.t37) ?_
    refine⟨_,Hp.aH,?_⟩
    rw[if_neg (fun h=>by cases h.1),if_pos ⟨rfl,Tb⟩,hh]at hQ
    subst hQ
    exact⟨mD.set qY,nG.set nV,Tc,aiu,w1,w2,w3,rfl⟩
   have Tb: ¬x.kids.length=1:=by omega
   rw[if_neg (fun h=>by cases h.1),if_neg (fun h=>Tb h.2)]at hQ
   subst hQ
   simp -dsimp -implicitDefEqProofs (disch:=first|omega|assumption|(simp only[rL,Nat.reduceAdd];try omega)) only[go_sem,simprocAttr,-List.reduceReplicate,e0,zv,Hp.aV kg,Hp.aV i10,m0,m1,m2,em,kC,t2,t3]
   refine bC (QQ s7 l lM S' mD false x.rows tU vt x.kids zD C8 d bq bg hP.r (hP.sr.mono DE) (by omega) hP.k (hP.sk.mono DE) (by omega)) ?_
   rintro r s9 ⟨xq,wh,hR⟩
   have v8:=wh _ _ qY.1 qY.2 i8
   obtain⟨k',w1,w2,w3,e,hk,rfl⟩:=hR.shape
   have hJ:=eA (o1:=w1) (o2:=w2) (o3:=w3) hk
   have iM:=hJ.len
   have pz:putAt (aS cO .nil .nil .nil) 0 (aS k' w1 w2 w3)=aS k' w1 w2 w3:=jV eY hk
   refine sr (c6 @e0 (Hp.dG v8) @pz @iM @zl hJ.t37) ?_
   exact⟨_,Hp.aH,xq.set qY,(nG.trans wh).set nV,hR⟩
end Go.Proofs.YtonldhgdjjfahaaGreat
namespace Go.Av
open Go
theorem dx.kz {s0 s:Hp}{k:Nat}{xs:List AV}{o:Own} (h:dx s0 s k xs o): ∃B:Hp,dx B s k xs o∧B.sub s∧s0.sub B∧ ∀x,(∀g c,o= .buf g c→g≠x)→B x=s x:=by
 obtain⟨h1,h2⟩:=h
 cases o with
 |buf g c=>
  have hs:(s.del g).sub s:=fun x o hx=>by
   by_cases e:x=g
   ·subst e;rw[Hp.yK]at hx;cases hx
   ·rw[Hp.pY _ e]at hx;exact hx
  refine⟨s.del g,⟨hs,Hp.yK _ _,h2.2⟩,hs,fun x o hx=> ?_,fun x hx=>Hp.pY _ (Ne.symm (hx _ _ rfl))⟩
  have e:x≠g:=by rintro rfl;rw[h2.1]at hx;cases hx
  rw[Hp.pY _ e];exact h1 _ _ hx
 |any=>exact h2.elim
 |nil=>exact⟨s,⟨Hp.aH,h2⟩,Hp.aH,h1,fun _ _=>rfl⟩
 |zero=>exact⟨s,⟨Hp.aH,h2⟩,Hp.aH,h1,fun _ _=>rfl⟩
theorem abw {neg:Bool}{xs:List AV}{C:AV→Prop}{d:jH C} (h:C (.v (.bool (!neg)))):SR neg (.sl xs .nil) (fj C d):=h
def Td (s:Hp):Prop:= ∀l cs xs,s l=some (.cells cs)→AV.sl xs .nil∈cs→xs= []
theorem dv.Te {H:PH}{s:Hp}{w:World} (h:dv H s w):Td s:=fun l cs xs hl hm=>by
 obtain⟨_,vs,T,_,hR,_⟩:=h.ob l _ hl
 obtain⟨j,hj,e⟩:=List.getElem_of_mem hm
 have:=hR.2 j (.sl xs .nil) (by rw[List.getElem?_eq_getElem hj,e])
 generalize vs.getD j undef=v at this
 cases this with
 |jo a cap ow ha ho=>rfl
 |sl b off len cap k fW xs ow hk hlen ft gr db hH hR ho=>exact ho.elim
theorem AC.Te {P:Program}{g:FuncId}{args:List AV}{s:Hp}{R:AV→Hp→Prop} (h:AC P g args s R):AC P g args s fun r s'=>R r s'∧Td s':=
 fun vs w H ha hs=>(h vs w H ha hs).mono fun _ _ ⟨v,r,H',s',he,dT,hv,hR⟩=>⟨v,r,H',s',he,dT,hv,hR,dT.holds.Te⟩
end Go.Av
namespace Go.Proofs.YtonldhgdjjfahaaGreat
open Go Go.Av
inductive It where
 |row (r:List Int)
 |dU (k:Kd)
def mQ (x:It) (a:AV):Prop:=
 match x with
 | .row r=>r≠ []∧ ∃o,o≠ .nil∧a= .agg (.sl (bA r) o::aS cO .nil .nil .nil)
 | .dU k=>k.sum.length=32∧k.Sh∧ ∃o1 o2 o3,a= .agg (.sl [] .nil::aS k o1 o2 o3)
theorem mQ.cells {x:It}{a:AV} (h:mQ x a):a.cells.length=38:=by
 cases x with
 |row r=>obtain⟨_,o,_,rfl⟩:=h;show(_::aS cO _ _ _).length=38;rw[List.length_cons,(eA eY).len]
 |dU k=>obtain⟨h1,_,o1,o2,o3,rfl⟩:=h;show(_::aS k _ _ _).length=38;rw[List.length_cons,(eA h1).len]
def It.isT:It→Bool
 | .dU _=>true
 | .row _=>false
def tG:List It→Bool
 |x:: _=>x.isT
 | []=>false
theorem mQ.cs {x:It}{a:AV} (h:mQ x a): ∃r k o o1 o2 o3,a= .agg (.sl (bA r) o::aS k o1 o2 o3)∧k.sum.length=32∧((x= .row r∧r≠ []∧o≠ .nil)∨(x= .dU k∧r= []∧o= .nil∧k.Sh)):=by
 cases x with
 |row r=>obtain⟨h0,o,h9,rfl⟩:=h;exact⟨r,cO,o,.nil,.nil,.nil,rfl,eY,.inl ⟨rfl,h0,h9⟩⟩
 |dU k=>obtain⟨h1,h2,o1,o2,o3,rfl⟩:=h;exact⟨[],k,.nil,o1,o2,o3,rfl,h1,.inr ⟨rfl,rfl,rfl,h2⟩⟩
theorem Tf:([AV.sl [] .nil]++List.replicate 32 (AV.v (.int .u8 0))++ [AV.sl [] .nil,.sl [] .nil]++ [AV.v (.int .i64 0),.v (.int .i64 0)]++ [AV.sl [] .nil])= .sl [] .nil::aS cO .nil .nil .nil:=by
 rw[←fl];rfl
theorem ag3 {a b:AV}{K:List AV}:putAt (a::K) 0 [b]=b::K:=rfl
theorem a0F {a:AV}{k j:Kd}{o1 o2 o3 p1 p2 p3:Own} (h:k.sum.length=32) (hj:j.sum.length=32):putAt (a::aS k o1 o2 o3) 1 (aS j p1 p2 p3)=a::aS j p1 p2 p3:=by
 have h1:=(eA (o1:=o1) (o2:=o2) (o3:=o3) h).len
 have h2:=(eA (o1:=p1) (o2:=p2) (o3:=p3) hj).len
 show a::(aS j p1 p2 p3++(a::aS k o1 o2 o3).drop (1+(aS j p1 p2 p3).length))= _
 rw[List.drop_eq_nil_of_le (by rw[List.length_cons];omega),List.append_nil]
abbrev Sv (l d:Nat) (av:List AV) (o:Own):List AV:= [.ptr l 0,.v (.int .i64 (d:Int)),.sl av o]
theorem WN (s:Hp) (l:Nat) (k:Kd) (o1 o2 o3:Own) (gQ:k.sum.length=32) (mj:k.Sh) (d:Nat):
  AC Tryz.prog 21 [.ptr l 0,.agg (aS k o1 o2 o3),.v (.int .i64 (d:Int))] s fun r s'=>s.sub s'∧ ∃q av o,r= .ptr q 0∧s q=none∧s' q=some (.cells (Sv l d av o))∧cn mQ (if k=cO then []else [.dU k]) av:=by
 refine cR hm acA (by simp) ?_
 have e0: ∀cs,(AV.agg cs).cells=cs:=fun _=>rfl
 have u0: ∀a b c x:AV,putAt [a,b,c] 0 [x]= [x,b,c]:=fun _ _ _ _=>rfl
 have u1: ∀a b c x:AV,putAt [a,b,c] 1 [x]= [a,x,c]:=fun _ _ _ _=>rfl
 have u2: ∀a b c x:AV,putAt [a,b,c] 2 [x]= [a,b,x]:=fun _ _ _ _=>rfl
 have l3: ∀a b c:AV,[a,b,c].length=3:=fun _ _ _=>rfl
 have hK:=eA (o1:=o1) (o2:=o2) (o3:=o3) gQ
 have fL:=hK.len
 refine sr (c2 @e0 @fL) ?_
 refine cP fun x4 n4=> ?_
 refine sr (c5 @e0 @fL @u0 @u1 @l3) ?_
 refine cP fun q nq=> ?_
 have UL:x4≠q:=by rintro rfl;rw[Hp.bt]at nq;cases nq
 have Pb:s q=none:=by rw[Hp.aX _ _ (Ne.symm UL)]at nq;exact nq
 obtain⟨B,hB⟩: ∃B:Hp,B=(s.set x4 (.cells (aS k o1 o2 o3))).set q (.cells [.ptr l 0,.v (.int .i64 (d:Int)),.sl [] .nil]):=⟨_,rfl⟩
 have dm:s.sub B:=by rw[hB];exact Hp.bT (Hp.bT Hp.aH n4) Pb
 have c4:B x4=some (.cells (aS k o1 o2 o3)):=by rw[hB,Hp.aX _ _ UL,Hp.bt]
 have cq:B q=some (.cells [.ptr l 0,.v (.int .i64 (d:Int)),.sl [] .nil]):=by rw[hB,Hp.bt]
 refine sr (c9 @e0 @fL @u0 @u1 @l3 @Hp.aX @UL @Hp.bt hK.t37) ?_
 rw[←hB]
 refine bC (JO k o1 o2 o3 B gQ mj) ?_
 rintro _ B ⟨rfl,rfl⟩
 by_cases hz:k=cO
 ·refine sr (c3 @e0 @hz @Bool.not_true) ?_
  exact⟨_,Hp.aH,dm,q,[],.nil,rfl,Pb,cq,by simp[cn]⟩
 ·refine sr (c5 @e0 @hz @Bool.not_false (Hp.aV c4) hK.t37) ?_
  have pz:=a0F (a:=AV.sl [] .nil) (o1:= .nil) (o2:= .nil) (o3:= .nil) (p1:=o1) (p2:=o2) (p3:=o3) eY gQ
  have hI:mQ (.dU k) (.agg (.sl [] .nil::aS k o1 o2 o3)):=⟨gQ,mj,o1,o2,o3,rfl⟩
  simp -dsimp -implicitDefEqProofs (disch:=first|omega|assumption|(simp only[rL,Nat.reduceAdd];try omega)) only[Tf,pz]
  refine ik Hp.aH (by intro e he;simp only[List.mem_singleton]at he;subst he;exact mQ.cells hI) fun o' s' h'=> ?_
  have cq':=h'.sub _ _ cq
  simp -dsimp -implicitDefEqProofs (disch:=first|omega|assumption|(simp only[rL,Nat.reduceAdd];try omega)) only[go_sem,simprocAttr,-List.reduceReplicate,e0,Hp.dG cq',u2,l3]
  refine⟨_,Hp.aH,Hp.bT (Hp.cy dm h'.sub) Pb,q,_,o',rfl,Pb,Hp.bt _ _ _,?_⟩
  rw[if_neg hz];exact⟨hI,trivial⟩
def uo (s:Hp) (q l d:Nat) (A:List It):Prop:= ∃av o,s q=some (.cells (Sv l d av o))∧cn mQ A av
theorem uo.mono {s s':Hp}{q l d:Nat}{A:List It} (h:uo s q l d A) (hs:s.sub s'):uo s' q l d A:=by
 obtain⟨av,o,h1,h2⟩:=h;exact⟨av,o,hs _ _ h1,h2⟩
theorem MA (s:Hp) (q l d:Nat) (A:List It) (h:uo s q l d A) (hn:A.length≤1000000000000):
  AC Tryz.prog 78 [.ptr q 0] s fun r s'=>s'=s∧r= .v (.bool (tG A)):=by
 obtain⟨av,o,hq,hA⟩:=h
 refine cR hm adq (by simp) ?_
 have m2: ∀a b c:AV,cK false 1 ([a,b,c].drop 2)=c:=fun _ _ _=>rfl
 have hl:=hA.len
 cases A with
 |nil=>
  have dc:av= []:=List.eq_nil_of_length_eq_zero (by simpa using hl)
  subst dc
  refine sr (c2 (Hp.aV hq) @m2) ?_
  exact⟨_,Hp.aH,rfl,rfl⟩
 |cons x A=>
  obtain⟨a,hg,hx⟩:=hA.get (i:=0) rfl
  obtain⟨r,k,o',o1,o2,o3,rfl,gQ,hc⟩:=hx.cs
  have im:=mQ.cells hx
  obtain⟨p9,e9,gl⟩:=(Sl.sl (s:=s) (o:=o) (hA.cells fun _ _=>mQ.cells)).get 0 _ hg
  have z9:((0:Nat):Int)=0:=rfl
  rw[z9]at e9
  obtain⟨p8,e8,GM⟩:=gl.fa s Hp.aH 0 false 1 (by omega) (by omega)
  have mk:cK false 1 ((AV.agg (.sl (bA r) o'::aS k o1 o2 o3)).cells.drop 0)= .sl (bA r) o':=rfl
  rw[mk]at GM
  have Eo:(0:Int)<(av.length:Int):=by rw[hl,List.length_cons];omega
  refine sr (c6 (Hp.aV hq) @m2 @Eo @e9 @e8 @GM) ?_
  rcases hc with ⟨rfl,si,ho0⟩|⟨rfl,rfl,rfl,mj⟩
  ·simp -dsimp -implicitDefEqProofs (disch:=first|omega|assumption|(simp only[rL,Nat.reduceAdd];try omega)) only[↓FH,go_sem,simprocAttr,-List.reduceReplicate]
   refine HG (fun h=>absurd h ho0) (fun h=> ?_) ?_
   ·have:=congrArg List.length h
    rw[kP]at this
    exact absurd (List.eq_nil_of_length_eq_zero this) si
   ·exact⟨_,Hp.aH,rfl,rfl⟩
  ·simp -dsimp -implicitDefEqProofs (disch:=first|omega|assumption|(simp only[rL,Nat.reduceAdd];try omega)) only[↓FH,go_sem,simprocAttr,-List.reduceReplicate]
   refine abw ?_
   exact⟨_,Hp.aH,rfl,rfl⟩
theorem HC (s:Hp) (q l d:Nat) (r:List Int) (A:List It) (h:uo s q l d (.row r::A)) (hn:A.length≤100000000):
  AC Tryz.prog 79 [.ptr q 0] s fun x s'=>isRow r x∧ ∃ob,s'=s.set q ob∧uo s' q l d A:=by
 obtain⟨av,o,hq,hA⟩:=h
 refine cR hm adr (by simp) ?_
 have m2: ∀a b c:AV,cK false 1 ([a,b,c].drop 2)=c:=fun _ _ _=>rfl
 have u2: ∀a b c x:AV,putAt [a,b,c] 2 [x]= [a,b,x]:=fun _ _ _ _=>rfl
 have l3: ∀a b c:AV,[a,b,c].length=3:=fun _ _ _=>rfl
 have hl:=hA.len
 obtain⟨a,hg,hx⟩:=hA.get (i:=0) rfl
 have im:=mQ.cells hx
 obtain⟨si,o',AI,rfl⟩:=hx
 obtain⟨p9,e9,gl⟩:=(Sl.sl (s:=s) (o:=o) (hA.cells fun _ _=>mQ.cells)).get 0 _ hg
 have z9:((0:Nat):Int)=0:=rfl
 rw[z9]at e9
 obtain⟨p8,e8,GM⟩:=gl.fa s Hp.aH 0 false 1 (by omega) (by omega)
 have mk:cK false 1 ((AV.agg (.sl (bA r) o'::aS cO .nil .nil .nil)).cells.drop 0)= .sl (bA r) o':=rfl
 rw[mk]at GM
 have o1:((1:Nat):Int)=1:=rfl
 have lj:av.length=A.length+1:=by rw[hl];rfl
 have s1:ng 38 (.sl av o) (some (.v (.int .i64 1))) none=some (.sl (av.drop 1) .any):=by
  have:=zW (k:=38) (xs:=av) (o:=o) (kd:= .i64) (a:=1) (by omega) (by omega) (hA.cells fun _ _=>mQ.cells)
  simpa using this
 refine sr (c9 (Hp.aV hq) @m2 @e9 @e8 @GM @s1 (Hp.dG hq) @u2 @l3) ?_
 exact⟨_,Hp.aH,⟨o',rfl⟩,_,rfl,av.drop 1,.any,Hp.bt _ _ _,by have:=hA.drop 1;simpa using this⟩
theorem Fl {x:It}{A:List It}{av:List AV} (hA:cn mQ (x::A) av) (o:Own): ∃r k o' o1 o2 o3,kQ 38 (.sl av o) (.v (.int .i64 0))=some (.eJ (.sl (bA r) o'::aS k o1 o2 o3))∧k.sum.length=32∧((x= .row r∧r≠ []∧o'≠ .nil)∨(x= .dU k∧r= []∧o'= .nil∧k.Sh)):=by
 obtain⟨a,hg,hx⟩:=hA.get (i:=0) rfl
 have im:=mQ.cells hx
 obtain⟨r,k,o',o1,o2,o3,rfl,gQ,hc⟩:=hx.cs
 refine⟨r,k,o',o1,o2,o3,?_,gQ,hc⟩
 rw[mN (by omega)]
 rw[show(0:Int).toNat=0 from rfl,hg,qR im];rfl
structure kK where
 A:List It
 B:List It
 gone:List (List Int)
 mR:List (List Int)
 iD:Int
abbrev wR (qa qb:Nat) (gv cv:List AV) (og oc:Own) (iD:Int):List AV:= [.ptr qa 0,.ptr qb 0,.sl gv og,.sl cv oc,.v (.int .i64 iD)]
structure nJ (s0 s:Hp) (W qa qb l1 l2 d:Nat) (w:kK):Prop where
 sub:s0.sub s
 nW:s0 W=none
 na:s0 qa=none
 nb:s0 qb=none
 dab:qa≠qb
 a:uo s qa l1 d w.A
 b:uo s qb l2 d w.B
 w: ∃gv og cv oc,s W=some (.cells (wR qa qb gv cv og oc w.iD))∧cn isRow w.gone gv∧cn isRow w.mR cv∧dx s0 s 1 gv og∧dx s0 s 1 cv oc∧ ∀g c g' c',og= .buf g c→oc= .buf g' c'→g≠g'
theorem nJ.ne {s0 s:Hp}{W qa qb l1 l2 d:Nat}{w:kK} (h:nJ s0 s W qa qb l1 l2 d w):W≠qa∧W≠qb:=by
 obtain⟨av,o,h1,_⟩:=h.a
 obtain⟨bv,o2,h2,_⟩:=h.b
 obtain⟨gv,og,cv,oc,h3,_⟩:=h.w
 refine⟨?_,?_⟩
 ·rintro rfl;rw[h1]at h3;simp at h3
 ·rintro rfl;rw[h2]at h3;simp at h3
def E8:List It→List It→Bool
 | .dU a:: _,.dU b:: _=>decide (a.sum=b.sum)
 | _,_=>false
theorem a5L (s0 s:Hp) (W qa qb l1 l2 d:Nat) (w:kK) (h:nJ s0 s W qa qb l1 l2 d w) (tP:w.A.length≤100000000) (vo:w.B.length≤100000000):
  AC Tryz.prog 46 [.ptr W 0] s fun r s'=>s'=s∧r= .v (.bool (E8 w.A w.B)):=by
 obtain⟨gv,og,cv,oc,hW,_⟩:=h.w
 have UM:=MA s qa l1 d w.A h.a (by omega)
 have UN:=MA s qb l2 d w.B h.b (by omega)
 obtain⟨av,oa,ha,hA⟩:=h.a
 obtain⟨bv,ob,hb,hB⟩:=h.b
 generalize w.A=A at*
 generalize w.B=B at*
 have m0: ∀a b c d e:AV,cK false 1 [a,b,c,d,e]=a:=fun _ _ _ _ _=>rfl
 have m1: ∀a b c d e:AV,cK false 1 ([a,b,c,d,e].drop 1)=b:=fun _ _ _ _ _=>rfl
 have m2: ∀a b c:AV,cK false 1 ([a,b,c].drop 2)=c:=fun _ _ _=>rfl
 refine cR hm acW (by simp) ?_
 refine sr (c3 (Hp.aV hW) @m0 @m1) ?_
 refine bC UM ?_
 rintro _ s ⟨rfl,rfl⟩
 cases oi:tG A with
 |false=>
  have:E8 A B=false:=by
   cases A with
   |nil=>rfl
   |cons x A=>cases x with
    |row r=>rfl
    |dU k=>cases oi
  rw[this]
  refine sr (c3 (Hp.aV hW) @m0 @m1) ?_
  exact⟨_,Hp.aH,rfl⟩
 |true=>
  refine sr (c3 (Hp.aV hW) @m0 @m1) ?_
  refine bC UN ?_
  rintro _ s ⟨rfl,rfl⟩
  cases wi:tG B with
  |false=>
   have:E8 A B=false:=by
    cases A with
    |nil=>rfl
    |cons x A=>cases x with
     |row r=>rfl
     |dU k=>cases B with
      |nil=>rfl
      |cons y B=>cases y with
       |row r=>rfl
       |dU k=>cases wi
   rw[this]
   refine sr (c3 (Hp.aV hW) @m0 @m1) ?_
   exact⟨_,Hp.aH,rfl⟩
  |true=>
   cases A with
   |nil=>cases oi
   |cons x A=>
    cases B with
    |nil=>cases wi
    |cons y B=>
     obtain⟨r,k,o',o1,o2,o3,i1,h1,sj⟩:=Fl hA oa
     obtain⟨r2,k2,Pc,p1,p2,p3,i2,h2,BX⟩:=Fl hB ob
     obtain⟨rfl,rfl,rfl,pJ⟩:=sj.resolve_left (fun h=>by rw[h.1]at oi;cases oi)
     obtain⟨rfl,rfl,rfl,pM⟩:=BX.resolve_left (fun h=>by rw[h.1]at wi;cases wi)
     have M0:=eA (o1:=o1) (o2:=o2) (o3:=o3) h1
     have M1:=eA (o1:=p1) (o2:=p2) (o3:=p3) h2
     have q1:=M0.len
     have q2:=M1.len
     have f1:gZ [(32,.int .u8)] (k.sum.map bN):=FA h1
     have f2:gZ [(32,.int .u8)] (k2.sum.map bN):=FA h2
     refine sr (J3 (Hp.aV hW) (Hp.aV ha) (Hp.aV hb) @m0 @m1 @m2 @i1 @i2 M0.t32 M1.t32 @f1 @f2 @Ke @Bool.false_xor @q1 @q2) ?_
     exact⟨_,Hp.aH,rfl,rfl⟩
def nO:List It→List It→Bool×Bool
 | .dU a:: _,.dU b:: _=>(decide (b.size≤a.size),decide (a.size≤b.size))
 |A,B=>(tG A,tG B)
theorem a52 (s0 s:Hp) (W qa qb l1 l2 d:Nat) (w:kK) (h:nJ s0 s W qa qb l1 l2 d w) (tP:w.A.length≤100000000) (vo:w.B.length≤100000000):
  AC Tryz.prog 47 [.ptr W 0] s fun r s'=>s'=s∧r= .dr [.v (.bool (nO w.A w.B).1),.v (.bool (nO w.A w.B).2)]:=by
 obtain⟨gv,og,cv,oc,hW,_⟩:=h.w
 have UM:=MA s qa l1 d w.A h.a (by omega)
 have UN:=MA s qb l2 d w.B h.b (by omega)
 obtain⟨av,oa,ha,hA⟩:=h.a
 obtain⟨bv,ob,hb,hB⟩:=h.b
 generalize w.A=A at*
 generalize w.B=B at*
 have m0: ∀a b c d e:AV,cK false 1 [a,b,c,d,e]=a:=fun _ _ _ _ _=>rfl
 have m1: ∀a b c d e:AV,cK false 1 ([a,b,c,d,e].drop 1)=b:=fun _ _ _ _ _=>rfl
 have m2: ∀a b c:AV,cK false 1 ([a,b,c].drop 2)=c:=fun _ _ _=>rfl
 refine cR hm acX (by simp) ?_
 refine sr (c3 (Hp.aV hW) @m0 @m1) ?_
 refine bC UM ?_
 rintro _ s ⟨rfl,rfl⟩
 refine sr (c3 (Hp.aV hW) @m0 @m1) ?_
 refine bC UN ?_
 rintro _ s ⟨rfl,rfl⟩
 cases hT:tG A&&tG B with
 |false=>
  have:nO A B=(tG A,tG B):=by
   cases A with
   |nil=>rfl
   |cons x A=>cases x with
    |row r=>rfl
    |dU k=>cases B with
     |nil=>rfl
     |cons y B=>cases y with
      |row r=>rfl
      |dU k=>cases hT
  rw[this]
  have:(if tG A=true then tG B else false)=false:=by cases hq:tG A<;>simp_all
  cases oi:tG A with
  |false=>
   refine sr (c3 (Hp.aV hW) @m0 @m1) ?_
   exact⟨_,Hp.aH,rfl⟩
  |true=>
   rw[oi,Bool.true_and]at hT
   rw[hT]
   refine sr (c3 (Hp.aV hW) @m0 @m1) ?_
   exact⟨_,Hp.aH,rfl⟩
 |true=>
  rw[Bool.and_eq_true]at hT
  obtain⟨oi,wi⟩:=hT
  rw[oi,wi]
  cases A with
  |nil=>cases oi
  |cons x A=>
   cases B with
   |nil=>cases wi
   |cons y B=>
    obtain⟨r,k,o',o1,o2,o3,i1,h1,sj⟩:=Fl hA oa
    obtain⟨r2,k2,Pc,p1,p2,p3,i2,h2,BX⟩:=Fl hB ob
    obtain⟨rfl,rfl,rfl,pJ⟩:=sj.resolve_left (fun h=>by rw[h.1]at oi;cases oi)
    obtain⟨rfl,rfl,rfl,pM⟩:=BX.resolve_left (fun h=>by rw[h.1]at wi;cases wi)
    have M0:=eA (o1:=o1) (o2:=o2) (o3:=o3) h1
    have M1:=eA (o1:=p1) (o2:=p2) (o3:=p3) h2
    have q1:=M0.len
    have q2:=M1.len
    refine sr (oS (Hp.aV hW) (Hp.aV ha) (Hp.aV hb) @m0 @m1 @m2 @i1 @i2 M0.d35 M1.d35 @q1 @q2) ?_
    exact⟨_,Hp.aH,rfl,rfl⟩
end Go.Proofs.YtonldhgdjjfahaaGreat
namespace Go.Av
open Go
theorem dx.jq {s0 s s':Hp}{k:Nat}{xs:List AV}{o:Own} (h:dx s0 s k xs o) (hs:s0.sub s') (hb: ∀g c,o= .buf g c→s' g=s g):dx s0 s' k xs o:=by
 refine⟨hs,?_⟩
 have h2:=h.2
 cases o with
 |buf g c=>exact⟨h2.1,by rw[hb _ _ rfl];exact h2.2⟩
 |any=>exact h2
 |nil=>exact h2
 |zero=>exact h2
theorem dx.At {s0 s:Hp}{k g c:Nat}{xs:List AV} (h:dx s0 s k xs (.buf g c)):s0 g=none∧s g=some (.buf k xs.length c):=h.2
end Go.Av
namespace Go.Proofs.YtonldhgdjjfahaaGreat
open Go Go.Av
theorem nJ.mono {s0 s s':Hp}{W qa qb l1 l2 d:Nat}{w:kK} (h:nJ s0 s W qa qb l1 l2 d w) (hs:s.sub s'):nJ s0 s' W qa qb l1 l2 d w:=by
 obtain⟨h1,h2,h3,h4,h5,h6,h7,gv,og,cv,oc,h8,h9,m6,rN,iR,wj⟩:=h
 exact⟨Hp.cy h1 hs,h2,h3,h4,h5,h6.mono hs,h7.mono hs,gv,og,cv,oc,hs _ _ h8,h9,m6,rN.mono hs,iR.mono hs,wj⟩
theorem uo.sY {s:Hp}{q l d x:Nat}{A:List It}{ob:Ob} (h:uo s q l d A) (hx:q≠x):uo (s.set x ob) q l d A:=by
 obtain⟨av,o,h1,h2⟩:=h;exact⟨av,o,by rw[Hp.aX _ _ hx];exact h1,h2⟩
theorem dx.sY {s0 s:Hp}{k x:Nat}{xs cs:List AV}{o:Own}{ob:Ob} (h:dx s0 s k xs o) (h0:s0 x=none) (hx:s x=some (.cells cs)):dx s0 (s.set x ob) k xs o:=
 h.jq (Hp.bT h.1 h0) fun g c e=>by
  subst e
  have bI:g≠x:=by rintro rfl;rw[h.At.2]at hx;cases hx
  rw[Hp.aX _ _ bI]
theorem nJ.L4 {s0 s:Hp}{W qa qb l1 l2 d:Nat}{w:kK}{ob:Ob}{A:List It} (h:nJ s0 s W qa qb l1 l2 d w) (hA:uo (s.set qa ob) qa l1 d A):nJ s0 (s.set qa ob) W qa qb l1 l2 d {w with A:=A}:=by
 have bI:=h.ne
 obtain⟨h1,h2,h3,h4,h5,⟨av,oa,ha,_⟩,h7,gv,og,cv,oc,h8,h9,m6,rN,iR,wj⟩:=h
 exact⟨Hp.bT h1 h3,h2,h3,h4,h5,hA,h7.sY (Ne.symm h5),gv,og,cv,oc,by rw[Hp.aX _ _ bI.1];exact h8,h9,m6,dx.sY rN h3 ha,dx.sY iR h3 ha,wj⟩
theorem nJ.ID {s0 s:Hp}{W qa qb l1 l2 d:Nat}{w:kK}{ob:Ob}{B:List It} (h:nJ s0 s W qa qb l1 l2 d w) (hB:uo (s.set qb ob) qb l2 d B):nJ s0 (s.set qb ob) W qa qb l1 l2 d {w with B:=B}:=by
 have bI:=h.ne
 obtain⟨h1,h2,h3,h4,h5,h6,⟨bv,o2,hb,_⟩,gv,og,cv,oc,h8,h9,m6,rN,iR,wj⟩:=h
 exact⟨Hp.bT h1 h4,h2,h3,h4,h5,h6.sY h5,hB,gv,og,cv,oc,by rw[Hp.aX _ _ bI.2];exact h8,h9,m6,dx.sY rN h4 hb,dx.sY iR h4 hb,wj⟩
theorem nJ.RW {s0 s:Hp}{W qa qb l1 l2 d:Nat}{w:kK}{gv cv:List AV}{og oc:Own} (g:Int) (h:nJ s0 s W qa qb l1 l2 d w) (hW:s W=some (.cells (wR qa qb gv cv og oc w.iD))):nJ s0 (s.set W (.cells (wR qa qb gv cv og oc g))) W qa qb l1 l2 d {w with iD:=g}:=by
 have bI:=h.ne
 obtain⟨h1,h2,h3,h4,h5,h6,h7,gv',og',cv',oc',h8,h9,m6,rN,iR,wj⟩:=h
 rw[hW]at h8
 simp only[Option.some.injEq,Ob.cells.injEq,List.cons.injEq,AV.sl.injEq,true_and,and_true]at h8
 obtain⟨⟨rfl,rfl⟩,rfl,rfl⟩:=h8
 exact⟨Hp.bT h1 h2,h2,h3,h4,h5,h6.sY (Ne.symm bI.1),h7.sY (Ne.symm bI.2),gv,og,cv,oc,Hp.bt _ _ _,h9,m6,dx.sY rN h2 hW,dx.sY iR h2 hW,wj⟩
theorem nJ.gone {s0 s B s':Hp}{W qa qb l1 l2 d:Nat}{w:kK}{gv cv:List AV}{og oc o':Own}{r:List Int}{a:AV} (h:nJ s0 s W qa qb l1 l2 d w) (hW:s W=some (.cells (wR qa qb gv cv og oc w.iD))) (hr:isRow r a) (yg:s0.sub B) (xl: ∀x,(∀g c,og= .buf g c→g≠x)→B x=s x) (ho:dx B s' 1 (gv++ [a]) o'):
  s' W=some (.cells (wR qa qb gv cv og oc w.iD))∧nJ s0 (s'.set W (.cells (wR qa qb (gv++ [a]) cv o' oc w.iD))) W qa qb l1 l2 d {w with gone:=w.gone++ [r]}:=by
 have bI:=h.ne
 obtain⟨h1,h2,h3,h4,h5,⟨av,oa,ha,hA⟩,⟨bv,ob,hb,hB⟩,gv',og',cv',oc',h8,h9,m6,rN,iR,wj⟩:=h
 rw[hW]at h8
 simp only[Option.some.injEq,Ob.cells.injEq,List.cons.injEq,AV.sl.injEq,true_and,and_true]at h8
 obtain⟨⟨rfl,rfl⟩,rfl,rfl⟩:=h8
 have jq: ∀x cs,s x=some (.cells cs)→s' x=some (.cells cs):=fun x cs hx=>ho.1 _ _ (by
  rw[xl x (fun g c e=>by subst e;rintro rfl;rw[rN.At.2]at hx;cases hx)];exact hx)
 have GN:=jq _ _ hW
 have hs:s0.sub s':=Hp.cy yg ho.1
 refine⟨GN,Hp.bT hs h2,h2,h3,h4,h5,⟨av,oa,by rw[Hp.aX _ _ (Ne.symm bI.1)];exact jq _ _ ha,hA⟩,⟨bv,ob,by rw[Hp.aX _ _ (Ne.symm bI.2)];exact jq _ _ hb,hB⟩,_,_,_,_,Hp.bt _ _ _,h9.snoc hr,m6,?_⟩
 have other:dx s0 s' 1 cv oc:=dx.jq iR hs fun g c e=>by
  subst e
  have:=ho.1 g _ (by rw[xl g (fun g2 c2 e2=>wj _ _ _ _ e2 rfl)];exact iR.At.2)
  rw[this,iR.At.2]
 have Tg:dx s0 s' 1 (gv++ [a]) o':=ho.base yg
 refine⟨dx.sY Tg h2 GN,dx.sY other h2 GN,fun g c g' c' e1 e2=> ?_⟩
 subst e1 e2
 rintro rfl
 have q:=ho.At.1
 rw[xl g (fun g2 c2 e2=>wj _ _ _ _ e2 rfl),iR.At.2]at q;cases q
theorem nJ.mR {s0 s B s':Hp}{W qa qb l1 l2 d:Nat}{w:kK}{gv cv:List AV}{og oc o':Own}{r:List Int}{a:AV} (h:nJ s0 s W qa qb l1 l2 d w) (hW:s W=some (.cells (wR qa qb gv cv og oc w.iD))) (hr:isRow r a) (yg:s0.sub B) (xl: ∀x,(∀g c,oc= .buf g c→g≠x)→B x=s x) (ho:dx B s' 1 (cv++ [a]) o'):
  s' W=some (.cells (wR qa qb gv cv og oc w.iD))∧nJ s0 (s'.set W (.cells (wR qa qb gv (cv++ [a]) og o' w.iD))) W qa qb l1 l2 d {w with mR:=w.mR++ [r]}:=by
 have bI:=h.ne
 obtain⟨h1,h2,h3,h4,h5,⟨av,oa,ha,hA⟩,⟨bv,ob,hb,hB⟩,gv',og',cv',oc',h8,h9,m6,rN,iR,wj⟩:=h
 rw[hW]at h8
 simp only[Option.some.injEq,Ob.cells.injEq,List.cons.injEq,AV.sl.injEq,true_and,and_true]at h8
 obtain⟨⟨rfl,rfl⟩,rfl,rfl⟩:=h8
 have jq: ∀x cs,s x=some (.cells cs)→s' x=some (.cells cs):=fun x cs hx=>ho.1 _ _ (by
  rw[xl x (fun g c e=>by subst e;rintro rfl;rw[iR.At.2]at hx;cases hx)];exact hx)
 have GN:=jq _ _ hW
 have hs:s0.sub s':=Hp.cy yg ho.1
 refine⟨GN,Hp.bT hs h2,h2,h3,h4,h5,⟨av,oa,by rw[Hp.aX _ _ (Ne.symm bI.1)];exact jq _ _ ha,hA⟩,⟨bv,ob,by rw[Hp.aX _ _ (Ne.symm bI.2)];exact jq _ _ hb,hB⟩,_,_,_,_,Hp.bt _ _ _,h9,m6.snoc hr,?_⟩
 have other:dx s0 s' 1 gv og:=dx.jq rN hs fun g c e=>by
  subst e
  have:=ho.1 g _ (by rw[xl g (fun g2 c2 e2=>Ne.symm (wj _ _ _ _ rfl e2))];exact rN.At.2)
  rw[this,rN.At.2]
 have Tg:dx s0 s' 1 (cv++ [a]) o':=ho.base yg
 refine⟨dx.sY other h2 GN,dx.sY Tg h2 GN,fun g c g' c' e1 e2=> ?_⟩
 subst e1 e2
 rintro rfl
 have q:=ho.At.1
 rw[xl g (fun g2 c2 e2=>Ne.symm (wj _ _ _ _ rfl e2)),rN.At.2]at q;cases q
def FK (w:kK):kK:=
 match w.A,w.B with
 | .row p::A,.row q::B=>if da p q=true then {w with A:=A,gone:=w.gone++ [p]}else if da q p=true then {w with B:=B,mR:=w.mR++ [q]}else {w with A:=A,B:=B}
 | .row p::A,[]=> {w with A:=A,gone:=w.gone++ [p]}
 | [],.row q::B=> {w with B:=B,mR:=w.mR++ [q]}
 | _,_=>w
theorem a5M (s0 s:Hp) (W qa qb l1 l2 d:Nat) (w:kK) (h:nJ s0 s W qa qb l1 l2 d w) (tP:w.A.length≤100000000) (vo:w.B.length≤100000000) (hg:w.gone.length≤100000000) (hc:w.mR.length≤100000000)
  (oi:tG w.A=false) (wi:tG w.B=false) (bI:w.A≠ []∨w.B≠ []):
  AC Tryz.prog 48 [.ptr W 0] s fun r s'=>nJ s0 s' W qa qb l1 l2 d (FK w):=by
 have m0: ∀a b c d e:AV,cK false 1 [a,b,c,d,e]=a:=fun _ _ _ _ _=>rfl
 have m1: ∀a b c d e:AV,cK false 1 ([a,b,c,d,e].drop 1)=b:=fun _ _ _ _ _=>rfl
 have w2: ∀a b c d e:AV,cK false 1 ([a,b,c,d,e].drop 2)=c:=fun _ _ _ _ _=>rfl
 have w3: ∀a b c d e:AV,cK false 1 ([a,b,c,d,e].drop 3)=d:=fun _ _ _ _ _=>rfl
 have m2: ∀a b c:AV,cK false 1 ([a,b,c].drop 2)=c:=fun _ _ _=>rfl
 have mr: ∀(a:AV) (K:List AV),cK false 1 (a::K)=a:=fun _ _=>rfl
 have u2: ∀a b c d e x:AV,putAt [a,b,c,d,e] 2 [x]= [a,b,x,d,e]:=fun _ _ _ _ _ _=>rfl
 have u3: ∀a b c d e x:AV,putAt [a,b,c,d,e] 3 [x]= [a,b,c,x,e]:=fun _ _ _ _ _ _=>rfl
 have l5: ∀a b c d e:AV,[a,b,c,d,e].length=5:=fun _ _ _ _ _=>rfl
 have ha:=h.a
 have hb:=h.b
 obtain⟨gv,og,cv,oc,hW,M3,M4,hG,hC,ap8⟩:=h.w
 obtain⟨av,oa,vn,hA⟩:=h.a
 obtain⟨bv,ob,AY,hB⟩:=h.b
 have lj:=hA.len
 have vX:=hB.len
 obtain⟨Q,hQ⟩: ∃Q,Q=FK w:=⟨_,rfl⟩
 rw[←hQ]
 refine cR hm acY (by simp) ?_
 obtain⟨A,B,gone,mR,iD⟩:=w
 simp only at tP vo hg hc oi wi bI ha hb hW M3 M4 hA hB lj vX
 rw[FK]at hQ
 cases B with
 |nil=>
  cases A with
  |nil=>simp at bI
  |cons x A'=>
   cases x with
   |dU k=>cases oi
   |row p=>
   simp only at hQ
   subst hQ
   obtain rfl:bv= []:=List.eq_nil_of_length_eq_zero (by simpa using vX)
   have z0:(([]:List AV).length:Int)=0:=rfl
   refine sr (c7 (Hp.aV hW) (Hp.aV vn) (Hp.aV AY) @m0 @m1 @m2 @z0) ?_
   try simp -dsimp -implicitDefEqProofs (disch:=first|omega|assumption|(simp only[rL,Nat.reduceAdd];try omega)) only[go_sem,simprocAttr,-List.reduceReplicate,Hp.aV hW,m0,m1,w2,w3]
   refine bC (HC s qa l1 d p A' ha (by simp at tP;omega)) ?_
   rintro x _ ⟨hx,ob,rfl,hS⟩
   have h1:=h.L4 hS
   have tV:(s.set qa ob) W=some (.cells (wR qa qb gv cv og oc iD)):=by rw[Hp.aX _ _ h.ne.1];exact hW
   have AZ:x.cells= [x]:=by obtain⟨o9,rfl⟩:=hx;rfl
   refine sr (c5 (Hp.aV tV) @m0 @m1 @w2 @w3) ?_
   refine ik Hp.aH (by intro e he;simp only[List.mem_singleton]at he;subst he;rw[AZ];rfl) fun Dq s2 ju=> ?_
   have h2:=h1.mono ju.sub
   have B8:=ju.sub _ _ tV
   refine sr (c5 (Hp.aV B8) @m0 @m1 @w2 @w3) ?_
   have wm:dx s0 s2 1 gv og:=dx.mono (dx.sY hG (h.na) vn) ju.sub
   obtain⟨B9,GP,Th,G1,G2⟩:=wm.kz
   have nX:=M3.len
   refine mc GP (M3.cells fun _ _=>isRow.cells) (by intro e he;simp only[List.mem_singleton]at he;subst he;rw[AZ];rfl) (by simp only[List.length_cons,List.length_nil];omega) (by simp only[List.length_cons,List.length_nil];omega) fun o' s' h'=> ?_
   obtain⟨GQ,h9⟩:=h2.gone B8 hx G1 G2 h'
   have tW: ∀(z:List AV) (p:Own),(AV.sl z p).cells= [.sl z p]:=fun _ _=>rfl
   refine sr (c4 (Hp.dG GQ) @u2 @l5 @tW) ?_
   exact⟨_,Hp.aH,h9⟩
 |cons y B'=>
  cases y with
  |dU k=>cases wi
  |row q=>
  have yf: ¬(bv.length:Int)=0:=by rw[vX,List.length_cons];omega
  cases A with
  |nil=>
   simp only at hQ
   subst hQ
   obtain rfl:av= []:=List.eq_nil_of_length_eq_zero (by simpa using lj)
   have z0:(([]:List AV).length:Int)=0:=rfl
   refine sr (c8 (Hp.aV hW) (Hp.aV vn) (Hp.aV AY) @m0 @m1 @m2 @z0 @yf) ?_
   try simp -dsimp -implicitDefEqProofs (disch:=first|omega|assumption|(simp only[rL,Nat.reduceAdd];try omega)) only[go_sem,simprocAttr,-List.reduceReplicate,Hp.aV hW,m0,m1,w2,w3]
   refine bC (HC s qb l2 d q B' hb (by simp at vo;omega)) ?_
   rintro x _ ⟨hx,ob,rfl,hS⟩
   have h1:=h.ID hS
   have tV:(s.set qb ob) W=some (.cells (wR qa qb gv cv og oc iD)):=by rw[Hp.aX _ _ h.ne.2];exact hW
   have AZ:x.cells= [x]:=by obtain⟨o9,rfl⟩:=hx;rfl
   refine sr (c5 (Hp.aV tV) @m0 @m1 @w2 @w3) ?_
   refine ik Hp.aH (by intro e he;simp only[List.mem_singleton]at he;subst he;rw[AZ];rfl) fun Dq s2 ju=> ?_
   have h2:=h1.mono ju.sub
   have B8:=ju.sub _ _ tV
   refine sr (c5 (Hp.aV B8) @m0 @m1 @w2 @w3) ?_
   have wm:dx s0 s2 1 cv oc:=dx.mono (dx.sY hC (h.nb) AY) ju.sub
   obtain⟨B9,GP,Th,G1,G2⟩:=wm.kz
   have nX:=M4.len
   refine mc GP (M4.cells fun _ _=>isRow.cells) (by intro e he;simp only[List.mem_singleton]at he;subst he;rw[AZ];rfl) (by simp only[List.length_cons,List.length_nil];omega) (by simp only[List.length_cons,List.length_nil];omega) fun o' s' h'=> ?_
   obtain⟨GQ,h9⟩:=h2.mR B8 hx G1 G2 h'
   have tW: ∀(z:List AV) (p:Own),(AV.sl z p).cells= [.sl z p]:=fun _ _=>rfl
   refine sr (c4 (Hp.dG GQ) @u3 @l5 @tW) ?_
   exact⟨_,Hp.aH,h9⟩
  |cons x A'=>
   cases x with
   |dU k=>cases oi
   |row p=>
   have ha0:(0:Int)<av.length:=by rw[lj,List.length_cons];omega
   have a1k: ¬(av.length:Int)=0:=by omega
   obtain⟨r,k,o',o1,o2,o3,i1,h1,sj⟩:=Fl hA oa
   obtain⟨r2,k2,Pc,p1,p2,p3,i2,h2,BX⟩:=Fl hB ob
   have e1:r=p:=by rcases sj with ⟨h,_⟩|⟨h,_⟩;(·cases h;rfl);(·cases h)
   have e2:r2=q:=by rcases BX with ⟨h,_⟩|⟨h,_⟩;(·cases h;rfl);(·cases h)
   subst e1 e2
   refine sr (oS (Hp.aV hW) (Hp.aV vn) (Hp.aV AY) @m0 @m1 @m2 @yf @ha0 @a1k @i1 @i2 @mr) ?_
   refine bC (JU r r2 o' Pc s) ?_
   rintro _ s ⟨rfl,rfl⟩
   cases k1:da r r2 with
   |true=>
   simp only[k1,if_true]at hQ
   subst hQ
   try simp -dsimp -implicitDefEqProofs (disch:=first|omega|assumption|(simp only[rL,Nat.reduceAdd];try omega)) only[go_sem,simprocAttr,-List.reduceReplicate,Hp.aV hW,m0,m1,w2,w3]
   refine bC (HC s qa l1 d r A' ha (by simp at tP;omega)) ?_
   rintro x _ ⟨hx,ob,rfl,hS⟩
   have h1:=h.L4 hS
   have tV:(s.set qa ob) W=some (.cells (wR qa qb gv cv og oc iD)):=by rw[Hp.aX _ _ h.ne.1];exact hW
   have AZ:x.cells= [x]:=by obtain⟨o9,rfl⟩:=hx;rfl
   refine sr (c5 (Hp.aV tV) @m0 @m1 @w2 @w3) ?_
   refine ik Hp.aH (by intro e he;simp only[List.mem_singleton]at he;subst he;rw[AZ];rfl) fun Dq s2 ju=> ?_
   have h2:=h1.mono ju.sub
   have B8:=ju.sub _ _ tV
   refine sr (c5 (Hp.aV B8) @m0 @m1 @w2 @w3) ?_
   have wm:dx s0 s2 1 gv og:=dx.mono (dx.sY hG (h.na) vn) ju.sub
   obtain⟨B9,GP,Th,G1,G2⟩:=wm.kz
   have nX:=M3.len
   refine mc GP (M3.cells fun _ _=>isRow.cells) (by intro e he;simp only[List.mem_singleton]at he;subst he;rw[AZ];rfl) (by simp only[List.length_cons,List.length_nil];omega) (by simp only[List.length_cons,List.length_nil];omega) fun o' s' h'=> ?_
   obtain⟨GQ,h9⟩:=h2.gone B8 hx G1 G2 h'
   have tW: ∀(z:List AV) (p:Own),(AV.sl z p).cells= [.sl z p]:=fun _ _=>rfl
   refine sr (c4 (Hp.dG GQ) @u2 @l5 @tW) ?_
   exact⟨_,Hp.aH,h9⟩
   |false=>
   simp only[k1,Bool.false_eq_true,if_false]at hQ
   refine sr (oS (Hp.aV hW) (Hp.aV vn) (Hp.aV AY) @m0 @m1 @m2 @yf @ha0 @a1k @i1 @i2 @mr) ?_
   refine bC (JU r2 r Pc o' s) ?_
   rintro _ s ⟨rfl,rfl⟩
   cases xj:da r2 r with
   |true=>
   simp only[xj,if_true]at hQ
   subst hQ
   try simp -dsimp -implicitDefEqProofs (disch:=first|omega|assumption|(simp only[rL,Nat.reduceAdd];try omega)) only[go_sem,simprocAttr,-List.reduceReplicate,Hp.aV hW,m0,m1,w2,w3]
   refine bC (HC s qb l2 d r2 B' hb (by simp at vo;omega)) ?_
   rintro x _ ⟨hx,ob,rfl,hS⟩
   have h1:=h.ID hS
   have tV:(s.set qb ob) W=some (.cells (wR qa qb gv cv og oc iD)):=by rw[Hp.aX _ _ h.ne.2];exact hW
   have AZ:x.cells= [x]:=by obtain⟨o9,rfl⟩:=hx;rfl
   refine sr (c5 (Hp.aV tV) @m0 @m1 @w2 @w3) ?_
   refine ik Hp.aH (by intro e he;simp only[List.mem_singleton]at he;subst he;rw[AZ];rfl) fun Dq s2 ju=> ?_
   have h2:=h1.mono ju.sub
   have B8:=ju.sub _ _ tV
   refine sr (c5 (Hp.aV B8) @m0 @m1 @w2 @w3) ?_
   have wm:dx s0 s2 1 cv oc:=dx.mono (dx.sY hC (h.nb) AY) ju.sub
   obtain⟨B9,GP,Th,G1,G2⟩:=wm.kz
   have nX:=M4.len
   refine mc GP (M4.cells fun _ _=>isRow.cells) (by intro e he;simp only[List.mem_singleton]at he;subst he;rw[AZ];rfl) (by simp only[List.length_cons,List.length_nil];omega) (by simp only[List.length_cons,List.length_nil];omega) fun o' s' h'=> ?_
   obtain⟨GQ,h9⟩:=h2.mR B8 hx G1 G2 h'
   have tW: ∀(z:List AV) (p:Own),(AV.sl z p).cells= [.sl z p]:=fun _ _=>rfl
   refine sr (c4 (Hp.dG GQ) @u3 @l5 @tW) ?_
   exact⟨_,Hp.aH,h9⟩
   |false=>
   simp only[xj,Bool.false_eq_true,if_false]at hQ
   subst hQ
   refine sr (c3 (Hp.aV hW) @m0 @m1) ?_
   refine bC (HC s qa l1 d r A' ha (by simp at tP;omega)) ?_
   rintro x _ ⟨hx,TS,rfl,hS⟩
   have h3:=h.L4 hS
   have tV:(s.set qa TS) W=some (.cells (wR qa qb gv cv og oc iD)):=by rw[Hp.aX _ _ h.ne.1];exact hW
   refine sr (c3 (Hp.aV tV) @m0 @m1) ?_
   refine bC (HC _ qb l2 d r2 B' h3.b (by simp at vo;omega)) ?_
   rintro x2 _ ⟨jG,Dq,rfl,nU⟩
   have h4:=h3.ID nU
   refine dD ?_
   exact⟨_,Hp.aH,h4⟩
def RX (n:gM):List It:=n.rows.map (fun r=> .row r.1)++n.kids.map .dU
def sR (S:bW) (d:Nat):List It→Option (List It)
 | .dU k::A=>match Am S d k with
  |none=>none
  |some n=>if n.kind=1 then none else some (RX n++A)
 | _=>none
theorem YB {S:bW}{d:Nat}{k:Kd}{n:gM} (h:Am S d k=some n):FR d k n:=by
 unfold Am at h
 split at h
 ·cases h
 ·split at h
  ·cases h
  ·split at h
   ·rename_i hs;obtain rfl:=Option.some.inj h;exact Zx hs
   ·cases h
theorem a8N {e c:AV}{av:List AV} (h:e∈av) (hc:c∈e.cells):c∈flat av:=List.mem_flatMap.2 ⟨e,h,hc⟩
theorem MO.inh {B s:Hp}{k:Nat}{us:List AV}{a:AV} (h:MO B s k us a) (hS:Td s): ∀xs,AV.sl xs .nil∈us→xs= []:=by
 intro xs hx
 obtain⟨l,n,cap,cs,rfl,q2,q3,q4,q5,q6,q7,q8⟩:=MO.mb h (by intro e;rw[e]at hx;simp at hx)
 exact hS l cs xs q3 (by rw[←q5]at hx;exact List.mem_of_mem_take hx)
theorem Qw (s:Hp) (q l lM d:Nat) (S:bW) (hS:eC s l lM S) (k:Kd) (A:List It) (h:uo s q l d (.dU k::A)) (hn:A.length≤100000000) (bq:1≤d) (bg:d≤8):
  AC Tryz.prog 49 [.ptr q 0] s fun r s'=>match sR S d (.dU k::A)with
   |none=>r= .v (.int .i64 21)∧s.sub s'
   |some A'=>r= .v (.int .i64 0)∧ ∃s1 ob,s.sub s1∧s'=s1.set q ob∧uo s' q l d A':=by
 have aoW:=h
 obtain⟨av,o,hq,hA⟩:=h
 refine cR hm acZ (by simp) ?_
 have e0: ∀cs,(AV.agg cs).cells=cs:=fun _=>rfl
 have m0: ∀a b c:AV,cK false 1 [a,b,c]=a:=fun _ _ _=>rfl
 have m1: ∀a b c:AV,cK false 1 ([a,b,c].drop 1)=b:=fun _ _ _=>rfl
 have m2: ∀a b c:AV,cK false 1 ([a,b,c].drop 2)=c:=fun _ _ _=>rfl
 have p3: ∀a b c x y z:AV,putAt [a,b,c] 0 [x,y,z]= [x,y,z]:=fun _ _ _ _ _ _=>rfl
 have u2: ∀a b c x:AV,putAt [a,b,c] 2 [x]= [a,b,x]:=fun _ _ _ _=>rfl
 have l3: ∀a b c:AV,[a,b,c].length=3:=fun _ _ _=>rfl
 obtain⟨r0,k0,o0,o1,o2,o3,i1,gQ,hc⟩:=Fl hA o
 obtain⟨Dk,rfl,rfl,mj⟩:=hc.resolve_left (fun h=>by cases h.1)
 obtain rfl:k=k0:=by cases Dk;rfl
 have hK:=eA (o1:=o1) (o2:=o2) (o3:=o3) gQ
 have fL:=hK.len
 have mkk:cK true 37 (aS k o1 o2 o3)= .agg (aS k o1 o2 o3):=by rw[cK,if_pos rfl,hK.t37]
 refine sr (c8 (Hp.aV hq) @m0 @m1 @m2 @i1 @fL @mkk @HE) ?_
 refine bC (AC.Te (XQ s l lM S hS k o1 o2 o3 gQ mj d bq bg)) ?_
 rintro r s1 ⟨⟨h1,hr⟩,ag4⟩
 rw[sR]
 cases hg:Am S d k with
 |none=>
  rw[hg]at hr
  obtain rfl:=hr
  refine sr (c3 @e0 @p3 @l3) ?_
  refine cP fun x3 n3=> ?_
  refine sr (c4 @e0 @p3 @l3 @Hp.set_set) ?_
  refine⟨_,Hp.aH,?_⟩
  exact Hp.bT h1 (Hp.iJ h1 n3)
 |some n=>
  rw[hg]at hr
  obtain⟨x,y,rfl,sM,evs,kv,mx,my,ax,ak,lx,ly⟩:=hr
  have Ao:=YB hg
  obtain⟨LX,P3,P4⟩:=Bt Ao.ok
  have FM:=MO.inh (MO.mono mx my.1) ag4
  refine sr (c3 @e0 @p3 @l3) ?_
  refine cP fun x3 n3=> ?_
  obtain⟨s2,pM⟩: ∃s2:Hp,s2=s1.set x3 (.cells [.v (.int .u8 (n.kind.toNat:Int)),x,y]):=⟨_,rfl⟩
  have iR:s1.sub s2:=by rw[pM];exact Hp.bT Hp.aH n3
  have c3:s2 x3=some (.cells [.v (.int .u8 (n.kind.toNat:Int)),x,y]):=by rw[pM,Hp.bt]
  have nc:nR s2 n x y evs kv:=nR.mono ⟨ax,ak,(Sl.mo mx (by omega) rfl (ax.cells fun _ _=>mA.cells)).mono my.1,Sl.mo my (by omega) rfl (ak.cells fun _ _=>eK.cells),lx,ly⟩ iR
  have ux:=Hp.cy h1 iR
  have b1:=Bv n.kind 1 (by omega)
  simp only[Int.cast_ofNat_Int]at b1
  rw[show UInt8.ofNat 1=1 from rfl]at b1
  have b1':decide ((n.kind.toNat:Int)=1)=decide (n.kind=1):=b1
  refine sr (c6 @e0 @p3 @l3 @Hp.set_set @Hp.bt @m0) ?_
  rw[Hp.set_set,←pM]
  simp only
  by_cases k1:n.kind=1
  ·have i1:((n.kind.toNat:Int)=1)=True:=by rw[k1];simp
   rw[if_pos k1]
   refine sr @i1 ?_
   refine⟨_,Hp.aH,?_⟩
   exact ux
  ·have i1': ¬(n.kind.toNat:Int)=1:=fun h=>k1 (by have:=b1;simp only[h,decide_true]at this;simpa using this.symm)
   rw[if_neg k1]
   refine sr (c6 @i1' (Hp.aV c3) @m0 @m1 @m2 nc.lx) ?_
   have zl:=(eA (o1:= .nil) (o2:= .nil) (o3:= .nil) eY).len
   have t2: ∀a b:AV,List.take 2 [a,b]= [a,b]:=fun _ _=>rfl
   have p2: ∀a b x y:AV,putAt [a,b] 0 [x,y]= [x,y]:=fun _ _ _ _=>rfl
   have OQ: ∀a b:AV,[a,b].length=2:=fun _ _=>rfl
   have n0: ∀a b:AV,cK false 1 [a,b]=a:=fun _ _=>rfl
   have er: ∀(z:List AV) (p:Own),(AV.sl z p).cells= [.sl z p]:=fun _ _=>rfl
   refine fS (fun f s'=> ∃(i:Nat) (lv:List AV) (lo:Own),i≤n.rows.length∧cn mQ ((n.rows.take i).map fun r=> .row r.1) lv∧dx s2 s' 38 lv lo∧
     f 0= .ptr q 0∧f 3= .ptr x3 0∧f 5= .sl lv lo∧f 37=x∧f 38= .v (.int .i64 n.rows.length)∧f 39= .v (.int .i64 i))
    (fun f _=>match f 39 with| .v (.int _ m)=>n.rows.length - m.toNat| _=>0) ⟨0,[],.nil,by omega,trivial,dx.nil Hp.aH,?_⟩ ?_
   ·exact nE
   rintro f s5 ⟨i,lv,lo,hi,hL,hO,f0,f3,f5,f37,f38,f39⟩
   have C9:=hL.len
   rw[List.length_map,List.length_take]at C9
   by_cases aW:(i:Int)<n.rows.length
   ·have hw:n.rows[i]? =some n.rows[i]:=List.getElem?_eq_getElem (by omega)
    have ht:n.rows.take (i+1)=n.rows.take i++ [n.rows[i]]:=by rw[List.take_add_one,hw];rfl
    have iv:=LX _ (List.getElem_mem (l:=n.rows) (n:=i) (by omega))
    generalize n.rows[i]'(by omega)=r at hw ht iv
    obtain⟨e,iB,o9,rfl⟩:=nc.rows.get hw
    have si:r.1≠ []:=by intro h;rw[h]at iv;simp at iv;omega
    have ho9:o9≠ .nil:=by
     rintro rfl
     have:=FM (bA r.1) (a8N (List.mem_of_getElem? iB) (by simp[AV.cells]))
     have:=congrArg List.length this
     rw[kP]at this
     exact si (List.eq_nil_of_length_eq_zero this)
    obtain⟨p9,e9,gl⟩:=nc.sx.get i _ iB
    have gj:=gl.ld s5 hO.sub true 2 (by omega) (by simp[AV.cells])
    have m2':cK true 2 (AV.agg [.sl (bA r.1) o9,.v (.bool r.2)]).cells= .agg [.sl (bA r.1) o9,.v (.bool r.2)]:=rfl
    rw[m2']at gj
    refine sr (oS @f0 @f3 @f5 @f37 @f38 @f39 @aW @e9 @gj @e0 @p2 @OQ) ?_
    refine cP fun x7 n7=> ?_
    have hI:mQ (.row r.1) (.agg (.sl (bA r.1) o9::aS cO .nil .nil .nil)):=⟨si,o9,ho9,rfl⟩
    refine sr (Gr @f0 @f3 @f5 @f37 @f38 @f39 @e0 @p2 @OQ @n0 @Hp.set_set @Hp.bt @Tf @ag3 @er) ?_
    refine ik Hp.aH (by intro e he;simp only[List.mem_singleton]at he;subst he;exact mQ.cells hI) fun oa sa ha=> ?_
    refine sr (c6 @f0 @f3 @f5 @f37 @f38 @f39) ?_
    refine mc (hO.mono (Hp.cy (Hp.bT Hp.aH n7) ha.sub)) (hL.cells fun _ _=>mQ.cells) (by intro e he;simp only[List.mem_singleton]at he;subst he;exact mQ.cells hI) (by simp only[List.length_cons,List.length_nil];omega) (by simp only[List.length_cons,List.length_nil];omega) fun ob sb hb=> ?_
    refine sr (c6 @f0 @f3 @f5 @f37 @f38 @f39) ?_
    refine⟨⟨i+1,_,ob,by omega,?_,hb,by simp⟩,by omega⟩
    rw[ht,List.map_append];exact hL.snoc hI
   obtain rfl:i=n.rows.length:=by omega
   rw[List.take_length]at hL
   have g3:=hO.sub _ _ c3
   refine sr (oS @f0 @f3 @f5 @f37 @f38 @f39 @aW (Hp.aV g3) @m0 @m1 @m2 nc.ly) ?_
   refine fS (fun f s'=> ∃(i:Nat) (lv:List AV) (lo:Own),i≤n.kids.length∧cn mQ (n.rows.map (fun r=> .row r.1)++(n.kids.take i).map .dU) lv∧dx s2 s' 38 lv lo∧
     f 0= .ptr q 0∧f 5= .sl lv lo∧f 51=y∧f 52= .v (.int .i64 n.kids.length)∧f 53= .v (.int .i64 i))
    (fun f _=>match f 53 with| .v (.int _ m)=>n.kids.length - m.toNat| _=>0) ⟨0,lv,lo,by omega,by simpa using hL,hO,?_⟩ ?_
   ·simp -dsimp -implicitDefEqProofs (disch:=first|omega|assumption|(simp only[rL,Nat.reduceAdd];try omega)) only[go_sem,simprocAttr,-List.reduceReplicate,f0,f3,f5]
   clear hL hO f0 f3 f5 f37 f38 f39 C9 g3 aW lv lo
   rintro f s5 ⟨i,lv,lo,hi,hL,hO,f0,f5,f51,f52,f53⟩
   have C9:=hL.len
   rw[List.length_append,List.length_map,List.length_map,List.length_take]at C9
   by_cases aW:(i:Int)<n.kids.length
   ·have hw:n.kids[i]? =some n.kids[i]:=List.getElem?_eq_getElem (by omega)
    have ht:n.kids.take (i+1)=n.kids.take i++ [n.kids[i]]:=by rw[List.take_add_one,hw];rfl
    generalize n.kids[i]'(by omega)=c at hw ht
    obtain⟨e,iB,C6,LR,w1,w2,w3,rfl⟩:=nc.kids.get hw
    have hC:=eA (o1:=w1) (o2:=w2) (o3:=w3) C6
    have GL:=hC.len
    obtain⟨p9,e9,gl⟩:=nc.sy.get i _ iB
    rw[e0]at gl
    have gj:=gl.ld s5 hO.sub true 37 (by omega) (by omega)
    rw[show cK true 37 (aS c w1 w2 w3)= .agg (aS c w1 w2 w3) by rw[cK,if_pos rfl,hC.t37]]at gj
    have pz:putAt (aS cO .nil .nil .nil) 0 (aS c w1 w2 w3)=aS c w1 w2 w3:=jV eY C6
    have pz1:=a0F (a:=AV.sl [] .nil) (o1:= .nil) (o2:= .nil) (o3:= .nil) (p1:=w1) (p2:=w2) (p3:=w3) eY C6
    refine sr (qE @f0 @f5 @f51 @f52 @f53 @aW @e9 @gj @e0 @fl @zl @GL @pz) ?_
    refine cP fun x9 n9=> ?_
    have hI:mQ (.dU c) (.agg (.sl [] .nil::aS c w1 w2 w3)):=⟨C6,LR,w1,w2,w3,rfl⟩
    refine sr (Gr @f0 @f5 @f51 @f52 @f53 @e0 @fl @zl @GL @pz @Hp.set_set @Hp.bt hC.t37 @Tf @pz1) ?_
    refine ik Hp.aH (by intro e he;simp only[List.mem_singleton]at he;subst he;exact mQ.cells hI) fun oa sa ha=> ?_
    refine sr (c5 @f0 @f5 @f51 @f52 @f53) ?_
    refine mc (hO.mono (Hp.cy (Hp.bT Hp.aH n9) ha.sub)) (hL.cells fun _ _=>mQ.cells) (by intro e he;simp only[List.mem_singleton]at he;subst he;exact mQ.cells hI) (by simp only[List.length_cons,List.length_nil];omega) (by simp only[List.length_cons,List.length_nil];omega) fun ob sb hb=> ?_
    refine sr (c5 @f0 @f5 @f51 @f52 @f53) ?_
    refine⟨⟨i+1,_,ob,by omega,?_,hb,by simp⟩,by omega⟩
    rw[ht,List.map_append,←List.append_assoc];exact hL.snoc hI
   obtain rfl:i=n.kids.length:=by omega
   rw[List.take_length]at hL
   have gq:=hO.sub _ _ (ux _ _ hq)
   have lj:=hA.len
   have s1':ng 38 (.sl av o) (some (.v (.int .i64 1))) none=some (.sl (av.drop 1) .any):=by
    have:=zW (k:=38) (xs:=av) (o:=o) (kd:= .i64) (a:=1) (by omega) (by rw[lj,List.length_cons];omega) (hA.cells fun _ _=>mQ.cells)
    simpa using this
   have mg:cn mQ A (av.drop 1):=by have:=hA.drop 1;simpa using this
   have aiv:=mg.len
   refine sr (c9 @f0 @f5 @f51 @f52 @f53 @aW (Hp.aV gq) @m2 @s1') ?_
   refine mc hO (hL.cells fun _ _=>mQ.cells) (mg.cells fun _ _=>mQ.cells) (by omega) (by omega) fun ob sb hb=> ?_
   have gq':=hb.sub _ _ (ux _ _ hq)
   refine sr (c9 @f0 @f5 @f51 @f52 @f53 (Hp.dG gq') @u2 @l3 @er) ?_
   refine⟨_,Hp.aH,?_⟩
   exact⟨sb,_,Hp.cy ux hb.sub,rfl,_,ob,Hp.bt _ _ _,hL.append mg⟩
def vF (b:Bool) (S:bW) (d:Nat) (A:List It):Option (List It):=if b=true then sR S d A else some A
def vc (S1 S2:bW) (d:Nat) (w:kK):Option kK:=
 if E8 w.A w.B=true then some {w with A:=w.A.tail,B:=w.B.tail}
 else if((nO w.A w.B).1||(nO w.A w.B).2)=false then some (FK w)
 else match vF (nO w.A w.B).1 S1 d w.A with
  |none=>none
  |some A'=>match vF (nO w.A w.B).2 S2 d w.B with
   |none=>none
   |some B'=>some ⟨A',B',w.gone,w.mR,w.iD+(if(nO w.A w.B).1=true then 1 else 0)+(if(nO w.A w.B).2=true then 1 else 0)⟩
theorem Qk (A B:List It):((nO A B).1=true→ ∃k A',A= .dU k::A')∧((nO A B).2=true→ ∃k B',B= .dU k::B')∧((nO A B).1=false→(nO A B).2=false→tG A=false∧tG B=false):=by
 have gen: ∀(A:List It),tG A=true→ ∃k A',A= .dU k::A':=fun A h=>by
  cases A with
  |nil=>cases h
  |cons x A=>cases x with
   |row r=>cases h
   |dU k=>exact⟨k,A,rfl⟩
 cases A with
 |nil=>exact⟨fun h=>gen _ h,fun h=>gen _ h,fun h1 h2=>⟨h1,h2⟩⟩
 |cons x A=>cases x with
  |row r=>exact⟨fun h=>gen _ h,fun h=>gen _ h,fun h1 h2=>⟨h1,h2⟩⟩
  |dU k=>cases B with
   |nil=>exact⟨fun h=>gen _ h,fun h=>gen _ h,fun h1 h2=>⟨h1,h2⟩⟩
   |cons y B=>cases y with
    |row r=>exact⟨fun h=>gen _ h,fun h=>gen _ h,fun h1 h2=>⟨h1,h2⟩⟩
    |dU k2=>
     refine⟨fun _=>⟨k,A,rfl⟩,fun _=>⟨k2,B,rfl⟩,fun h1 h2=> ?_⟩
     simp only[nO,decide_eq_false_iff_not]at h1 h2
     omega
theorem a5N (s0 s:Hp) (W qa qb l1 EK l2 DF d:Nat) (S1 S2:bW) (uG:eC s0 l1 EK S1) (nU:eC s0 l2 DF S2) (bq:1≤d) (bg:d≤8) (w:kK) (h:nJ s0 s W qa qb l1 l2 d w)
  (tP:w.A.length≤100000000) (vo:w.B.length≤100000000) (hg:w.gone.length≤100000000) (hc:w.mR.length≤100000000) (bI:w.A≠ []∨w.B≠ []) (aiw:0≤w.iD∧w.iD≤1000000000000):
  AC Tryz.prog 22 [.ptr W 0] s fun r s'=>match vc S1 S2 d w with
   |none=>r= .v (.int .i64 21)∧s0.sub s'
   |some w'=>r= .v (.int .i64 0)∧nJ s0 s' W qa qb l1 l2 d w':=by
 have m0: ∀a b c d e:AV,cK false 1 [a,b,c,d,e]=a:=fun _ _ _ _ _=>rfl
 have m1: ∀a b c d e:AV,cK false 1 ([a,b,c,d,e].drop 1)=b:=fun _ _ _ _ _=>rfl
 have w4: ∀a b c d e:AV,cK false 1 ([a,b,c,d,e].drop 4)=e:=fun _ _ _ _ _=>rfl
 have m2: ∀a b c:AV,cK false 1 ([a,b,c].drop 2)=c:=fun _ _ _=>rfl
 have u2: ∀a b c x:AV,putAt [a,b,c] 2 [x]= [a,b,x]:=fun _ _ _ _=>rfl
 have u4: ∀a b c d e x:AV,putAt [a,b,c,d,e] 4 [x]= [a,b,c,d,x]:=fun _ _ _ _ _ _=>rfl
 have l3: ∀a b c:AV,[a,b,c].length=3:=fun _ _ _=>rfl
 have l5: ∀a b c d e:AV,[a,b,c,d,e].length=5:=fun _ _ _ _ _=>rfl
 have er: ∀(z:List AV) (p:Own),(AV.sl z p).cells= [.sl z p]:=fun _ _=>rfl
 have ei: ∀(k:IntKind) (z:Int),(AV.v (.int k z)).cells= [.v (.int k z)]:=fun _ _=>rfl
 obtain⟨Q,hQ⟩: ∃Q,Q=vc S1 S2 d w:=⟨_,rfl⟩
 rw[←hQ]
 rw[vc]at hQ
 obtain⟨gv,og,cv,oc,hW,_⟩:=h.w
 refine cR hm acB (by simp) ?_
 refine dD ?_
 refine bC (a5L s0 s W qa qb l1 l2 d w h tP vo) ?_
 rintro _ s ⟨rfl,rfl⟩
 cases lj:E8 w.A w.B with
 |true=>
  rw[if_pos lj]at hQ
  subst hQ
  obtain⟨av,oa,vn,hA⟩:=h.a
  obtain⟨bv,ob,AY,hB⟩:=h.b
  have aiv:=hA.len
  have ap9:=hB.len
  have P9:1≤w.A.length∧1≤w.B.length:=by
   generalize w.A=A at lj
   generalize w.B=B at lj
   cases A with
   |nil=>cases lj
   |cons x A=>cases x with
    |row r=>cases lj
    |dU k=>cases B with
     |nil=>cases lj
     |cons y B=>simp
  have s1:ng 38 (.sl av oa) (some (.v (.int .i64 1))) none=some (.sl (av.drop 1) .any):=by
   have:=zW (k:=38) (xs:=av) (o:=oa) (kd:= .i64) (a:=1) (by omega) (by omega) (hA.cells fun _ _=>mQ.cells)
   simpa using this
  have s2:ng 38 (.sl bv ob) (some (.v (.int .i64 1))) none=some (.sl (bv.drop 1) .any):=by
   have:=zW (k:=38) (xs:=bv) (o:=ob) (kd:= .i64) (a:=1) (by omega) (by omega) (hB.cells fun _ _=>mQ.cells)
   simpa using this
  have aix: ∀o,rI (s.set qa o) qb=some (Sv l2 d bv ob):=fun o=>Hp.dG (by rw[Hp.aX _ _ (Ne.symm h.dab)];exact AY)
  refine sr (qE (Hp.aV hW) (Hp.aV vn) (Hp.aV AY) @m0 @m1 @m2 @s1 @s2 (Hp.dG vn) @aix @u2 @l3 @er) ?_
  refine⟨_,Hp.aH,?_⟩
  have t1:uo (s.set qa (.cells [.ptr l1 0,.v (.int .i64 (d:Int)),.sl (av.drop 1) .any])) qa l1 d w.A.tail:=⟨_,.any,Hp.bt _ _ _,by have:=hA.drop 1;rwa[List.drop_one]at this⟩
  have h1:=h.L4 t1
  have t2:uo ((s.set qa (.cells [.ptr l1 0,.v (.int .i64 (d:Int)),.sl (av.drop 1) .any])).set qb (.cells [.ptr l2 0,.v (.int .i64 (d:Int)),.sl (bv.drop 1) .any])) qb l2 d w.B.tail:=⟨_,.any,Hp.bt _ _ _,by have:=hB.drop 1;rwa[List.drop_one]at this⟩
  exact h1.ID t2
 |false=>
  rw[if_neg (by simp[lj])]at hQ
  refine dD ?_
  refine bC (a52 s0 s W qa qb l1 l2 d w h tP vo) ?_
  rintro _ s ⟨rfl,rfl⟩
  obtain⟨UO,Pd,oh3⟩:=Qk w.A w.B
  cases c1:(nO w.A w.B).1 with
  |false=>
   cases c2:(nO w.A w.B).2 with
   |false=>
    rw[c1,c2]at hQ
    simp only[Bool.or_self,if_true]at hQ
    subst hQ
    obtain⟨g1,g2⟩:=oh3 c1 c2
    refine sr @Bool.not_false ?_
    refine bC (a5M s0 s W qa qb l1 l2 d w h tP vo hg hc g1 g2 bI) ?_
    intro r s' hR
    refine dD ?_
    exact⟨_,Hp.aH,hR⟩
   |true=>
    obtain⟨k,B',zJ⟩:=Pd c2
    rw[c1,c2]at hQ
    simp only[Bool.false_or,Bool.true_eq_false,if_false,vF,Bool.false_eq_true,if_true,Int.add_zero]at hQ
    have hgw:=aiw
    refine sr (gP @Bool.not_false @Bool.not_true (Hp.aV hW) @m0 @m1 @w4 (Hp.dG hW) @u4 @l5 @ei) ?_
    have tT:=h.RW (w.iD+1) hW
    have Gt:=tT.b
    rw[show({w with iD:=w.iD+1}:kK).B=w.B from rfl,zJ]at Gt
    refine bC (Qw _ qb l2 DF d S2 (nU.mono tT.sub) k B' Gt (by rw[zJ]at vo;simp at vo;omega) bq bg) ?_
    intro r s' hR
    rw[zJ]at hQ
    cases ho:sR S2 d (.dU k::B')with
    |none=>
     rw[ho]at hR hQ
     simp only at hQ
     subst hQ
     obtain⟨rfl,hs⟩:=hR
     refine dD ?_
     refine⟨_,Hp.aH,?_⟩
     exact Hp.cy tT.sub hs
    |some B2=>
     rw[ho]at hR hQ
     simp only at hQ
     subst hQ
     obtain⟨rfl,s1,ob,hs,rfl,hS⟩:=hR
     refine dD ?_
     refine⟨_,Hp.aH,?_⟩
     exact(tT.mono hs).ID hS
  |true=>
   obtain⟨ka,A',xw⟩:=UO c1
   rw[c1]at hQ
   simp only[Bool.true_or,Bool.true_eq_false,if_false,vF,if_true]at hQ
   refine sr (gP @Bool.not_false @Bool.not_true (Hp.aV hW) @m0 @m1 @w4 (Hp.dG hW) @u4 @l5 @ei) ?_
   have Ca:=h.RW (w.iD+1) hW
   have Cb:=Ca.a
   rw[show({w with iD:=w.iD+1}:kK).A=w.A from rfl,xw]at Cb
   refine bC (Qw _ qa l1 EK d S1 (uG.mono Ca.sub) ka A' Cb (by rw[xw]at tP;simp at tP;omega) bq bg) ?_
   intro r s' hR
   rw[xw]at hQ
   cases ho:sR S1 d (.dU ka::A')with
   |none=>
    rw[ho]at hR hQ
    simp only at hQ
    subst hQ
    obtain⟨rfl,hs⟩:=hR
    refine dD ?_
    refine⟨_,Hp.aH,?_⟩
    exact Hp.cy Ca.sub hs
   |some A2=>
    rw[ho]at hR hQ
    simp only at hQ
    obtain⟨rfl,s1,ob,hs,rfl,hS⟩:=hR
    have Cc:=(Ca.mono hs).L4 hS
    obtain⟨gv1,og1,cv1,oc1,tV,_⟩:=Cc.w
    simp only at tV
    cases c2:(nO w.A w.B).2 with
    |false=>
     rw[xw]at c2
     rw[c2]at hQ
     simp only[Bool.false_eq_true,if_false,Int.add_zero]at hQ
     subst hQ
     refine dD ?_
     refine⟨_,Hp.aH,?_⟩
     exact Cc
    |true=>
    obtain⟨k,B',zJ⟩:=Pd c2
    rw[xw]at c2
    rw[c2]at hQ
    simp only[if_true]at hQ
    generalize s1.set qa ob=s3 at*
    refine sr (c8 (Hp.aV tV) @m0 @m1 @w4 (Hp.dG tV) @u4 @l5 @ei) ?_
    have tT:=Cc.RW (({w with A:=A2,iD:=w.iD+1}:kK).iD+1) tV
    have Gt:=tT.b
    rw[show({w with A:=A2,iD:=w.iD+1+1}:kK).B=w.B from rfl,zJ]at Gt
    refine bC (Qw _ qb l2 DF d S2 (nU.mono tT.sub) k B' Gt (by rw[zJ]at vo;simp at vo;omega) bq bg) ?_
    intro r s' hR
    rw[zJ]at hQ
    cases ho:sR S2 d (.dU k::B')with
    |none=>
     rw[ho]at hR hQ
     simp only at hQ
     subst hQ
     obtain⟨rfl,hs⟩:=hR
     refine dD ?_
     refine⟨_,Hp.aH,?_⟩
     exact Hp.cy tT.sub hs
    |some B2=>
     rw[ho]at hR hQ
     simp only at hQ
     subst hQ
     obtain⟨rfl,s1,ob,hs,rfl,hS⟩:=hR
     refine dD ?_
     refine⟨_,Hp.aH,?_⟩
     exact(tT.mono hs).ID hS
end Go.Proofs.YtonldhgdjjfahaaGreat
namespace Go.Av
open Go
theorem least {p:Nat→Prop} (h: ∃n,p n): ∃n,p n∧ ∀m,p m→n≤m:=by
 obtain⟨n,hn⟩:=h
 induction n using Nat.strongRecOn with
 | _ n ih=>
  by_cases h: ∃m,m<n∧p m
  ·obtain⟨m,hm,Ln⟩:=h;exact ih m hm Ln
  ·exact⟨n,hn,fun m hm=>Nat.le_of_not_lt fun aW=>h ⟨m,aW,hm⟩⟩
open Classical in
noncomputable def Ny (p:Nat→Prop):Nat:=if h: ∃n,p n then Classical.choose (least h)else 0
theorem WO {p:Nat→Prop} (h: ∃n,p n):p (Ny p)∧ ∀m,p m→Ny p≤m:=by
 unfold Ny;rw[dif_pos h];exact Classical.choose_spec (least h)
theorem a53 {P:Ctx}{K:Ex→Fr→Hp→Prop}{a:uq}{f:Fr}{s:Hp}{d:jH (je P (.loop a) K f s)} (I:Nat→Fr→Hp→Prop) (n0:Nat) (h0:I n0 f s) (h: ∀n f s,I n f s→je P a (vd (fun f' s'=> ∃m,m<n∧I m f' s') K) f s):
  jC (je P (.loop a) K f s) d:=by
 refine fS (fun f s=> ∃n,I n f s) (fun f s=>Ny fun n=>I n f s) ⟨n0,h0⟩ fun f s hI=> ?_
 obtain⟨h1,_⟩:=WO hI
 refine Cz a (fun e f' s' hk=> ?_) f s (h _ f s h1)
 cases e with
 |norm=>
  obtain⟨m,hm,Lu⟩:=hk
  exact⟨⟨m,Lu⟩,Nat.lt_of_le_of_lt ((WO ⟨m,Lu⟩).2 m Lu) hm⟩
 |exit i=>exact hk
 |ret=>exact hk
end Go.Av
namespace Go.Proofs.YtonldhgdjjfahaaGreat
open Go Go.Av
def wt:It→Nat
 | .row _=>1
 | .dU k=>if 1≤k.size∧k.size≤1048576 then 3*k.size.toNat - 1 else 1
def gh (A:List It):Nat:=(A.map wt).sum
theorem Nz (x:It):1≤wt x:=by
 cases x with
 |row r=>exact Nat.le_refl _
 |dU k=>simp only[wt];split<;>omega
theorem RB: ∀A:List It,A.length≤gh A
 | []=>Nat.zero_le _
 |x::A=>by have:=RB A;have:=Nz x;simp only[gh,List.map_cons,List.sum_cons,List.length_cons]at*;omega
theorem CB (x:It) (A:List It):gh (x::A)=wt x+gh A:=by simp[gh]
theorem Zz (A B:List It):gh (A++B)=gh A+gh B:=by simp[gh]
theorem a8O (rs:List (List Int×Bool)):gh (rs.map fun r=> .row r.1)=rs.length:=by
 induction rs with
 |nil=>rfl
 |cons r rs ih=>rw[List.map_cons,CB,ih,List.length_cons];simp[wt];omega
theorem a8P (ks:List Kd) (h: ∀c∈ks,1≤c.size∧c.size≤1048576):(gh (ks.map .dU):Int)+ks.length=3*(ks.map (·.size)).sum:=by
 induction ks with
 |nil=>rfl
 |cons c ks ih=>
  have ih:=ih fun c hc=>h c (by simp[hc])
  have hc:=h c (by simp)
  rw[List.map_cons,CB]
  simp only[wt,if_pos hc,List.map_cons,List.sum_cons,List.length_cons]
  omega
theorem ZA {S:bW}{d:Nat}{k:Kd}{A A':List It} (h:sR S d (.dU k::A)=some A'):gh A'<gh (.dU k::A):=by
 rw[sR]at h
 split at h
 ·cases h
 rename_i n hg
 split at h
 ·cases h
 rename_i k1
 obtain rfl:=Option.some.inj h
 have hs:=YB hg
 have hz:=hs.size
 have hm:=hs.kz
 rw[Zz,CB,RX,Zz,a8O]
 have FJ:n.kind=2∨n.kind=3:=by
  have cj:=hs.ok
  unfold py at cj
  rw[if_neg k1]at cj
  by_cases k2:n.kind=2
  ·exact .inl k2
  ·by_cases k3:n.kind=3
   ·exact .inr k3
   ·rw[if_neg k2,if_neg k3]at cj;simp at cj
 rcases FJ with k2|k3
 ·obtain⟨q1,q2,q3,q4⟩:=hs.leaf k2
  rw[q3]at hz⊢
  simp only[List.map_nil,List.sum_nil,Int.add_zero]at hz
  have:wt (.dU k)=3*k.size.toNat - 1:=by simp only[wt];rw[if_pos (by omega)]
  rw[this]
  simp only[gh,List.map_nil,List.sum_nil]
  omega
 ·obtain⟨q1,q2,q3,q4⟩:=hs.inner k3
  rw[q1]at hz⊢
  simp only[List.length_nil,Int.natCast_zero,Int.zero_add]at hz
  have hk:=a8P n.kids fun c hc=>by have:=q4 c hc;omega
  obtain⟨c,hc⟩:=List.exists_mem_of_length_pos (l:=n.kids) (by omega)
  have hc4:=q4 c hc
  have:wt (.dU k)=3*k.size.toNat - 1:=by simp only[wt];rw[if_pos (by omega)]
  rw[this,List.length_nil]
  omega
structure Bd (w w':kK):Prop where
 wt:gh w'.A+gh w'.B<gh w.A+gh w.B
 rows:w'.gone.length+w'.mR.length+(gh w'.A+gh w'.B)≤w.gone.length+w.mR.length+(gh w.A+gh w.B)
 iD:w.iD≤w'.iD∧w'.iD+2*(gh w'.A+gh w'.B:Nat)≤w.iD+2*(gh w.A+gh w.B:Nat)
theorem YC {A:List It} (h:A≠ []):gh A.tail<gh A:=by
 cases A with
 |nil=>exact absurd rfl h
 |cons x A=>have:=Nz x;rw[CB,List.tail_cons];omega
theorem No {S1 S2:bW}{d:Nat}{w w':kK} (h:vc S1 S2 d w=some w') (bI:w.A≠ []∨w.B≠ []):Bd w w':=by
 rw[vc]at h
 split at h
 ·rename_i lj
  obtain rfl:=Option.some.inj h
  have P9:w.A≠ []∧w.B≠ []:=by
   generalize w.A=A at lj
   generalize w.B=B at lj
   cases A with
   |nil=>cases lj
   |cons x A=>cases x with
    |row r=>cases lj
    |dU k=>cases B with
     |nil=>cases lj
     |cons y B=>simp
  have h1:=YC P9.1
  have h2:=YC P9.2
  exact⟨by simp only;omega,by simp only;omega,by simp only;omega⟩
 ·split at h
  ·rename_i ho
   obtain rfl:=Option.some.inj h
   rw[Bool.or_eq_false_iff]at ho
   obtain⟨g1,g2⟩:=(Qk w.A w.B).2.2 ho.1 ho.2
   obtain⟨A,B,gone,mR,iD⟩:=w
   simp only at g1 g2 bI
   cases A with
   |nil=>cases B with
    |nil=>simp at bI
    |cons y B=>cases y with
     |dU k=>cases g2
     |row q=>refine⟨?_,?_,?_⟩<;>simp only[FK,CB,wt,List.length_append,List.length_cons,List.length_nil]<;>omega
   |cons x A=>cases x with
    |dU k=>cases g1
    |row p=>cases B with
     |nil=>refine⟨?_,?_,?_⟩<;>simp only[FK,CB,wt,List.length_append,List.length_cons,List.length_nil]<;>omega
     |cons y B=>cases y with
      |dU k=>cases g2
      |row q=>
       simp only[FK]
       split
       ·refine⟨?_,?_,?_⟩<;>simp only[CB,wt,List.length_append,List.length_cons,List.length_nil]<;>omega
       ·split
        ·refine⟨?_,?_,?_⟩<;>simp only[CB,wt,List.length_append,List.length_cons,List.length_nil]<;>omega
        ·refine⟨?_,?_,?_⟩<;>simp only[CB,wt]<;>omega
  ·rename_i ho
   obtain⟨UO,Pd,_⟩:=Qk w.A w.B
   split at h
   ·cases h
   rename_i A' xw
   split at h
   ·cases h
   rename_i B' zJ
   obtain rfl:=Option.some.inj h
   have ha:(nO w.A w.B).1=true→gh A'<gh w.A:=fun hc=>by
    obtain⟨k,A0,e⟩:=UO hc
    rw[vF,if_pos hc,e]at xw
    rw[e];exact ZA xw
   have ha2:(nO w.A w.B).1=false→A'=w.A:=fun hc=>by
    rw[vF,if_neg (by simp[hc])]at xw;exact(Option.some.inj xw).symm
   have hb:(nO w.A w.B).2=true→gh B'<gh w.B:=fun hc=>by
    obtain⟨k,A0,e⟩:=Pd hc
    rw[vF,if_pos hc,e]at zJ
    rw[e];exact ZA zJ
   have ju:(nO w.A w.B).2=false→B'=w.B:=fun hc=>by
    rw[vF,if_neg (by simp[hc])]at zJ;exact(Option.some.inj zJ).symm
   cases c1:(nO w.A w.B).1 with
   |false=>
    have e1:=ha2 c1
    cases c2:(nO w.A w.B).2 with
    |false=>rw[c1,c2]at ho;simp at ho
    |true=>
     have:=hb c2
     refine⟨?_,?_,?_⟩<;>simp[e1]<;>omega
   |true=>
    have:=ha c1
    cases c2:(nO w.A w.B).2 with
    |false=>
     have e2:=ju c2
     refine⟨?_,?_,?_⟩<;>simp[e2]<;>omega
    |true=>
     have:=hb c2
     refine⟨?_,?_,?_⟩<;>simp<;>omega
def zj (S1 S2:bW) (d:Nat):Nat→kK→Option kK
 |0,_=>none
 |n+1,w=>if w.A.length+w.B.length=0 then some w else match vc S1 S2 d w with
  |none=>none
  |some w'=>zj S1 S2 d n w'
def xL (k:Kd):List It:=if k=cO then []else [.dU k]
def yT (S1 S2:bW) (d:Nat) (ka kb:Kd):Option kK:=zj S1 S2 d (gh (xL ka)+gh (xL kb)+1) ⟨xL ka,xL kb,[],[],0⟩
theorem YD (k:Kd):gh (xL k)≤3145727:=by
 unfold xL
 split
 ·simp[gh]
 ·simp only[gh,List.map_cons,List.map_nil,List.sum_cons,List.sum_nil,wt];split<;>omega
theorem Ql (s:Hp) (l1 EK l2 DF d:Nat) (S1 S2:bW) (uG:eC s l1 EK S1) (nU:eC s l2 DF S2) (bq:1≤d) (bg:d≤8) (ka kb:Kd) (o1 o2 o3 p1 p2 p3:Own) (ha:ka.sum.length=32) (hb:kb.sum.length=32) (Cb:ka.Sh) (Ba:kb.Sh):
  AC Tryz.prog 9 [.ptr l1 0,.agg (aS ka o1 o2 o3),.ptr l2 0,.agg (aS kb p1 p2 p3),.v (.int .i64 (d:Int))] s fun r s'=>s.sub s'∧match yT S1 S2 d ka kb with
   |none=> ∃e,e≠0∧r= .dr [.sl [] .nil,.sl [] .nil,.v (.int .i64 0),.v (.int .i64 e)]
   |some w=> ∃gv og cv oc,r= .dr [.sl gv og,.sl cv oc,.v (.int .i64 w.iD),.v (.int .i64 0)]∧cn isRow w.gone gv∧cn isRow w.mR cv∧w.gone.length≤10000000∧w.mR.length≤10000000:=by
 refine cR hm afj (by simp) ?_
 have e0: ∀cs,(AV.agg cs).cells=cs:=fun _=>rfl
 have m0: ∀a b c d e:AV,cK false 1 [a,b,c,d,e]=a:=fun _ _ _ _ _=>rfl
 have m1: ∀a b c d e:AV,cK false 1 ([a,b,c,d,e].drop 1)=b:=fun _ _ _ _ _=>rfl
 have w2: ∀a b c d e:AV,cK false 1 ([a,b,c,d,e].drop 2)=c:=fun _ _ _ _ _=>rfl
 have w3: ∀a b c d e:AV,cK false 1 ([a,b,c,d,e].drop 3)=d:=fun _ _ _ _ _=>rfl
 have w4: ∀a b c d e:AV,cK false 1 ([a,b,c,d,e].drop 4)=e:=fun _ _ _ _ _=>rfl
 have m2: ∀a b c:AV,cK false 1 ([a,b,c].drop 2)=c:=fun _ _ _=>rfl
 have q0: ∀a b c d e x:AV,putAt [a,b,c,d,e] 0 [x]= [x,b,c,d,e]:=fun _ _ _ _ _ _=>rfl
 have q1: ∀a b c d e x:AV,putAt [a,b,c,d,e] 1 [x]= [a,x,c,d,e]:=fun _ _ _ _ _ _=>rfl
 have l5: ∀a b c d e:AV,[a,b,c,d,e].length=5:=fun _ _ _ _ _=>rfl
 have UP:=eA (o1:=o1) (o2:=o2) (o3:=o3) ha
 have Pe:=eA (o1:=p1) (o2:=p2) (o3:=p3) hb
 have la:=UP.len
 have lb:=Pe.len
 refine sr (c2 @e0 @la) ?_
 refine cP fun x6 n6=> ?_
 refine sr (c2 @e0 @lb) ?_
 refine cP fun x8 n8=> ?_
 have d68:x6≠x8:=by rintro rfl;rw[Hp.bt]at n8;cases n8
 have nV:s x8=none:=by rw[Hp.aX _ _ (Ne.symm d68)]at n8;exact n8
 obtain⟨B,hB⟩: ∃B:Hp,B=(s.set x6 (.cells (aS ka o1 o2 o3))).set x8 (.cells (aS kb p1 p2 p3)):=⟨_,rfl⟩
 have dm:s.sub B:=by rw[hB];exact Hp.bT (Hp.bT Hp.aH n6) nV
 have c6:B x6=some (.cells (aS ka o1 o2 o3)):=by rw[hB,Hp.aX _ _ d68,Hp.bt]
 have c8:B x8=some (.cells (aS kb p1 p2 p3)):=by rw[hB,Hp.bt]
 have cd1: ¬(d:Int)<1:=by omega
 have cd8: ¬(8:Int)<(d:Int):=by omega
 refine sr (gP @e0 @la @lb @cd1 @cd8 @Hp.aX @d68 @Hp.bt UP.t37 Pe.t37) ?_
 rw[←hB]
 refine bC (WN B l1 ka o1 o2 o3 ha Cb d) ?_
 rintro _ s1 ⟨h1,qa,av,oa,rfl,nqa,vn,hA⟩
 have k8:=h1 _ _ c8
 refine sr (c4 @e0 (Hp.aV k8) @lb Pe.t37) ?_
 refine bC (WN s1 l2 kb p1 p2 p3 hb Ba d) ?_
 rintro _ s2 ⟨h2,qb,bv,ob,rfl,UQ,AY,xl⟩
 have k6:=h2 _ _ (h1 _ _ c6)
 have k8':=h2 _ _ k8
 refine sr (gP @e0 (Hp.aV k8') (Hp.aV k6) @la @lb UP.t37 Pe.t37 @q0 @q1 @l5) ?_
 refine cP fun W nW=> ?_
 obtain⟨s3,wg⟩: ∃s3:Hp,s3=s2.set W (.cells [.ptr qa 0,.ptr qb 0,.sl [] .nil,.sl [] .nil,.v (.int .i64 0)]):=⟨_,rfl⟩
 have qG:s2.sub s3:=by rw[wg];exact Hp.bT Hp.aH nW
 have ux:=Hp.cy dm (Hp.cy h1 h2)
 have Ti:=Hp.cy ux qG
 have Pf:nJ s s3 W qa qb l1 l2 d ⟨xL ka,xL kb,[],[],0⟩:=by
  refine⟨Ti,Hp.iJ ux nW,Hp.iJ dm nqa,Hp.iJ (Hp.cy dm h1) UQ,?_,⟨av,oa,qG _ _ (h2 _ _ vn),hA⟩,⟨bv,ob,qG _ _ AY,xl⟩,[],.nil,[],.nil,by rw[wg,Hp.bt],trivial,trivial,dx.nil Ti,dx.nil Ti,fun g c g' c' e=>by cases e⟩
  rintro rfl;rw[vn]at UQ;cases UQ
 have bwa:=YD ka
 have bwb:=YD kb
 refine dD ?_
 rw[show s2.set W (.cells (AV.agg [.ptr qa 0,.ptr qb 0,.sl [] .nil,.sl [] .nil,.v (.int .i64 0)]).cells)=s3 from wg.symm]
 refine a53 (fun n f s'=> ∃w,nJ s s' W qa qb l1 l2 d w∧f 14= .ptr W 0∧zj S1 S2 d n w=yT S1 S2 d ka kb∧gh w.A+gh w.B<n∧gh w.A+gh w.B≤6291454∧w.gone.length+w.mR.length+(gh w.A+gh w.B)≤6291454∧0≤w.iD∧w.iD+2*(gh w.A+gh w.B:Nat)≤12582908) (gh (xL ka)+gh (xL kb)+1)
  ⟨_,Pf,by simp -dsimp -implicitDefEqProofs (disch:=first|omega|assumption|(simp only[rL,Nat.reduceAdd];try omega)) only[go_sem,simprocAttr,-List.reduceReplicate],rfl,by simp,by simp;omega,by simp;omega,by simp,by simp;omega⟩ ?_
 rintro n f s5 ⟨w,hw,f14,hr,hwn,hw6,hwr,apa,hwg⟩
 have Pg:=RB w.A
 have Ph:=RB w.B
 obtain⟨gv,og,cv,oc,hW,hG,hC,_⟩:=hw.w
 obtain⟨av5,oa5,a1l,P7⟩:=hw.a
 obtain⟨bv5,ob5,a1m,C5⟩:=hw.b
 have a1n:=P7.len
 have a1o:=C5.len
 obtain⟨m,rfl⟩: ∃m,n=m+1:=⟨n - 1,by omega⟩
 rw[zj]at hr
 by_cases hz:(0:Int)<(w.A.length:Int)+(w.B.length:Int)
 ·rw[if_neg (by omega)]at hr
  have bI:w.A≠ []∨w.B≠ []:=by
   cases hq:w.A with
   |cons x A=>exact .inl (by simp)
   |nil=>right;intro e;rw[hq,e]at hz;simp at hz
  refine sr (gP @f14 (Hp.aV hW) (Hp.aV a1l) (Hp.aV a1m) @m0 @m1 @m2 @a1n @a1o @hz) ?_
  refine bC (a5N s s5 W qa qb l1 EK l2 DF d S1 S2 uG nU bq bg w hw (by omega) (by omega) (by omega) (by omega) bI (by omega)) ?_
  intro r s6 hR
  cases ho:vc S1 S2 d w with
  |none=>
   rw[ho]at hR hr
   obtain⟨rfl,AX⟩:=hR
   simp only at hr
   rw[←hr]
   refine sr @f14 ?_
   exact⟨_,Hp.aH,AX,21,by decide,rfl⟩
  |some w'=>
   rw[ho]at hR hr
   obtain⟨rfl,TU⟩:=hR
   have hbd:=No ho bI
   obtain⟨b1,b2,b3,b4⟩:=hbd
   refine sr @f14 ?_
   exact⟨m,by omega,w',TU,hr,by omega,by omega,by omega,by omega,by omega⟩
 ·rw[if_pos (by omega)]at hr
  rw[←hr]
  refine sr (qE @f14 (Hp.aV hW) (Hp.aV a1l) (Hp.aV a1m) @m0 @m1 @m2 @w2 @w3 @w4 @a1n @a1o @hz) ?_
  exact⟨_,Hp.aH,hw.sub,gv,og,cv,oc,rfl,hG,hC,by omega,by omega⟩
end Go.Proofs.YtonldhgdjjfahaaGreat
namespace Go.Av
open Go
theorem a8Q (a:Nat) (ha:a<18446744073709551616):a^^^9223372036854775808=(a+9223372036854775808)%18446744073709551616:=by
 have e1:(9223372036854775808:Nat)=2^63:=by decide
 have e2:(18446744073709551616:Nat)=2^64:=by decide
 rw[e2]at ha
 rw[e1,e2]
 apply Nat.eq_of_testBit_eq
 intro j
 rw[Nat.testBit_xor,Nat.testBit_two_pow,Nat.testBit_mod_two_pow,Nat.add_comm]
 by_cases h1:j<63
 ·rw[Nat.testBit_two_pow_add_gt h1]
  have: ¬(63=j):=by omega
  have h2:j<64:=by omega
  simp[this,h2]
 ·by_cases h2:j=63
  ·subst h2
   rw[Nat.testBit_two_pow_add_eq]
   simp
  ·have h3: ¬j<64:=by omega
   have h4:a.testBit j=false:=Nat.testBit_lt_two_pow (Nat.lt_of_lt_of_le ha (Nat.pow_le_pow_right (by omega) (by omega)))
   have: ¬(63=j):=by omega
   simp[this,h3,h4]
end Go.Av
namespace Go.Proofs.YtonldhgdjjfahaaGreat
open Go Go.Av
theorem YE (n:Int):(gV n:Int)=(n+9223372036854775808)%18446744073709551616:=by
 have hx:(BitVec.ofInt 64 n).toNat=(n%18446744073709551616).toNat:=by rw[BitVec.toNat_ofInt];rfl
 have aW:(BitVec.ofInt 64 n).toNat<18446744073709551616:=(BitVec.ofInt 64 n).isLt
 have h2:gV n=((BitVec.ofInt 64 n).toNat+9223372036854775808)%18446744073709551616:=by
  rw[gV,BitVec.toNat_xor]
  have e:(BitVec.ofInt 64 9223372036854775808).toNat=9223372036854775808:=by decide
  rw[e,a8Q _ aW]
 rw[h2]
 omega
theorem a8R (n:Int):IntKind.u64.wrap (IntKind.u64.wrap n+9223372036854775808)=(gV n:Int):=by
 rw[YE,My,My];omega
theorem Np {n:Int} (h1: -9223372036854775808≤n) (h2:n<9223372036854775808):(gV n:Int)=n+9223372036854775808:=by
 rw[YE];omega
theorem MB (a b:List Int) (o o2:Own) (s:Hp) (hn:a.length≤1000000000000):
  AC Tryz.prog 24 [.sl (bA a) o,.sl (bA b) o2] s fun r s'=>s'=s∧r= .v (.bool (decide (a=b))):=by
 refine cR hm acD (by simp) ?_
 have la:=kP (r:=a)
 have lb:=kP (r:=b)
 by_cases hl:(a.length:Int)=b.length
 ·refine sr (c3 @la @lb @hl) ?_
  refine fS (fun f s'=> ∃i:Nat,s'=s∧i≤a.length∧a.take i=b.take i∧f 0= .sl (bA a) o∧f 1= .sl (bA b) o2∧f 5= .v (.int .i64 i))
   (fun f _=>match f 5 with| .v (.int _ m)=>a.length - m.toNat| _=>0) ⟨0,rfl,by omega,rfl,?_⟩ ?_
  ·exact nE
  rintro f s5 ⟨i,rfl,hi,ht,f0,f1,f5⟩
  by_cases aW:(i:Int)<a.length
  ·have ha:a[i]? =some a[i]:=List.getElem?_eq_getElem (by omega)
   have hb:b[i]? =some b[i]:=List.getElem?_eq_getElem (by omega)
   have ta:a.take (i+1)=a.take i++ [a[i]]:=by rw[List.take_add_one,ha];rfl
   have tb:b.take (i+1)=b.take i++ [b[i]]:=by rw[List.take_add_one,hb];rfl
   generalize a[i]'(by omega)=x at ha ta
   generalize b[i]'(by omega)=y at hb tb
   have Al:(i:Int)<b.length:=by omega
   by_cases nD:x=y
   ·simp -dsimp -implicitDefEqProofs (disch:=first|omega|assumption|(simp only[rL,Nat.reduceAdd];try omega)) only[go_sem,simprocAttr,-List.reduceReplicate,f0,f1,f5,la,aW,Al,hl,oJ ha,oJ hb,uj,nD]
    refine⟨⟨i+1,by omega,?_,by simp⟩,by omega⟩
    rw[ta,tb,ht,nD]
   ·simp -dsimp -implicitDefEqProofs (disch:=first|omega|assumption|(simp only[rL,Nat.reduceAdd];try omega)) only[go_sem,simprocAttr,-List.reduceReplicate,f0,f1,f5,la,aW,Al,hl,oJ ha,oJ hb,uj,nD]
    refine⟨_,Hp.aH,rfl,?_⟩
    have:a≠b:=by rintro rfl;rw[ha]at hb;exact nD (Option.some.inj hb)
    simp[this]
  ·obtain rfl:i=a.length:=by omega
   rw[List.take_length,List.take_of_length_le (by omega)]at ht
   have Al: ¬(b.length:Int)<b.length:=by omega
   refine sr (c7 @f0 @f1 @f5 @la @aW @Al @hl) ?_
   exact⟨_,Hp.aH,by simp[ht]⟩
 ·refine sr (c3 @la @lb @hl) ?_
  have:a≠b:=by rintro rfl;exact hl rfl
  exact⟨_,Hp.aH,by simp[this]⟩
theorem Mw (a b:List (List Int)) (av bv:List AV) (o o2:Own) (s:Hp) (hA:cn isRow a av) (hB:cn isRow b bv) (hn:a.length≤1000000000000) (hx: ∀r∈a,r.length≤1000000000000):
  AC Tryz.prog 11 [.sl av o,.sl bv o2] s fun r s'=>s'=s∧r= .v (.bool (decide (a=b))):=by
 refine cR hm acr (by simp) ?_
 have la:=hA.len
 have lb:=hB.len
 by_cases hl:(a.length:Int)=b.length
 ·have gX:(av.length:Int)=bv.length:=by omega
  refine sr @gX ?_
  refine fS (fun f s'=> ∃i:Nat,s'=s∧i≤a.length∧a.take i=b.take i∧f 0= .sl av o∧f 1= .sl bv o2∧f 5= .v (.int .i64 i))
   (fun f _=>match f 5 with| .v (.int _ m)=>a.length - m.toNat| _=>0) ⟨0,rfl,by omega,rfl,?_⟩ ?_
  ·exact nE
  rintro f s5 ⟨i,rfl,hi,ht,f0,f1,f5⟩
  by_cases aW:(i:Int)<av.length
  ·have ha:a[i]? =some a[i]:=List.getElem?_eq_getElem (by omega)
   have hb:b[i]? =some b[i]:=List.getElem?_eq_getElem (by omega)
   have ta:a.take (i+1)=a.take i++ [a[i]]:=by rw[List.take_add_one,ha];rfl
   have tb:b.take (i+1)=b.take i++ [b[i]]:=by rw[List.take_add_one,hb];rfl
   have gW:=hx _ (List.getElem_mem (l:=a) (n:=i) (by omega))
   generalize a[i]'(by omega)=x at ha ta gW
   generalize b[i]'(by omega)=y at hb tb
   obtain⟨va,ga,o3,rfl⟩:=hA.get ha
   obtain⟨vb,gb,o4,rfl⟩:=hB.get hb
   obtain⟨p9,e9,gl⟩:=(Sl.sl (s:=s5) (o:=o) (hA.cells fun _ _=>isRow.cells)).get i _ ga
   obtain⟨p8,e8,hp8⟩:=(Sl.sl (s:=s5) (o:=o2) (hB.cells fun _ _=>isRow.cells)).get i _ gb
   have gj:k9 false 1 s5 p9=some (.sl (bA x) o3):=by rw[gl.ld s5 Hp.aH false 1 (by omega) (by simp[AV.cells])];rfl
   have GM:k9 false 1 s5 p8=some (.sl (bA y) o4):=by rw[hp8.ld s5 Hp.aH false 1 (by omega) (by simp[AV.cells])];rfl
   refine sr (c8 @f0 @f1 @f5 @aW @e9 @e8 @gj @GM) ?_
   refine bC (MB x y o3 o4 _ gW) ?_
   rintro _ s5 ⟨rfl,rfl⟩
   by_cases nD:x=y
   ·refine sr (c5 @f0 @f1 @f5 @nD @Bool.not_true) ?_
    refine⟨⟨i+1,by omega,?_,by simp⟩,by omega⟩
    rw[ta,tb,ht,nD]
   ·refine sr (c5 @f0 @f1 @f5 @nD @Bool.not_false) ?_
    refine⟨_,Hp.aH,rfl,?_⟩
    have:a≠b:=by rintro rfl;rw[ha]at hb;exact nD (Option.some.inj hb)
    simp[this]
  ·obtain rfl:i=a.length:=by omega
   rw[List.take_length,List.take_of_length_le (by omega)]at ht
   refine sr (c4 @f0 @f1 @f5 @aW) ?_
   exact⟨_,Hp.aH,by simp[ht]⟩
 ·have gX: ¬(av.length:Int)=bv.length:=by omega
  refine sr @gX ?_
  have:a≠b:=by rintro rfl;exact hl rfl
  exact⟨_,Hp.aH,by simp[this]⟩
def tM (b:Bool):UInt8:=if b=true then 1 else 0
def NT (p:List Int):List UInt8:=(au.kb (p.map gV) 64).map tM
theorem A7 (p:List Int) (b:Nat):(au.kb (p.map gV) b).length=p.length*b:=by rw[au.XR,List.length_map]
theorem a5O (p:List Int) (o:Own) (s:Hp) (hp:p.length≤1000):
  AC Tryz.prog 153 [.sl (bA p) o] s fun r s'=> ∃o',dx s s' 1 ((NT p).map bN) o'∧r= .sl ((NT p).map bN) o':=by
 refine cR hm a9T (by simp) ?_
 have la:=kP (r:=p)
 refine dD ?_
 refine fS (fun f s'=> ∃(b:Nat) (ls:List UInt8) (lo:Own),b≤64∧ls++(au.kb (p.map gV) b).map tM=NT p∧dx s s' 1 (ls.map bN) lo∧f 0= .sl (bA p) o∧f 3= .sl (ls.map bN) lo∧f 4= .v (.int .i64 ((b:Int) - 1)))
  (fun f _=>match f 4 with| .v (.int _ m)=>(m+1).toNat| _=>0) ⟨64,[],.nil,by omega,rfl,dx.nil Hp.aH,?_⟩ ?_
 ·exact nE
 rintro f s5 ⟨b,ls,lo,hb,hc,hO,f0,f3,f4⟩
 have C9:ls.length≤64000:=by
  have:=congrArg List.length hc
  rw[List.length_append,List.length_map,A7,NT,List.length_map,A7]at this
  omega
 by_cases aW:(0:Int)≤(b:Int) - 1
 ·obtain⟨c,rfl⟩: ∃c,b=c+1:=⟨b - 1,by omega⟩
  have ec:((c+1:Nat):Int) - 1=(c:Int):=by omega
  rw[ec]at f4 aW
  refine sr (c4 @f0 @f3 @f4 @aW) ?_
  rw[au.kb,List.map_append,←List.append_assoc]at hc
  have Ir:64000≥ls.length:=C9
  refine fS (fun f s'=> ∃(i:Nat) (ms:List UInt8) (lo:Own),i≤p.length∧ms=ls++((p.take i).map fun n=>tM ((gV n).testBit c))∧dx s s' 1 (ms.map bN) lo∧f 0= .sl (bA p) o∧f 3= .sl (ms.map bN) lo∧f 4= .v (.int .i64 (c:Int))∧f 5= .v (.int .i64 i))
   (fun f _=>match f 5 with| .v (.int _ m)=>p.length - m.toNat| _=>0) ⟨0,ls,lo,by omega,by simp,hO,?_⟩ ?_
  ·exact sz (c3 @f0 @f3 @f4)
  have g4:=f4
  clear f0 f3 f4 hO
  rintro f' s6 ⟨i,ms,lo,hi,Pj,hO,f0,f3,f4,f5⟩
  have Pa:ms.length≤65000:=by rw[Pj,List.length_append,List.length_map,List.length_take];omega
  by_cases D3:(i:Int)<p.length
  ·have AN:p[i]? =some p[i]:=List.getElem?_eq_getElem (by omega)
   have ht:p.take (i+1)=p.take i++ [p[i]]:=by rw[List.take_add_one,AN];rfl
   generalize p[i]'(by omega)=x at AN ht
   have w1:IntKind.u64.wrap (c:Int)=(c:Int):=wrap_u64 (by omega) (by omega)
   have w2:eL .shr (.int .u64 (gV x:Int)) (.int .u64 (c:Int))=some (.int .u64 ((gV x>>>c:Nat):Int)):=by
    rw[Rr _ _ _ (by omega) (by omega)];simp
   have w3:eL .rem (.int .u64 ((gV x>>>c:Nat):Int)) (.int .u64 2)=some (.int .u64 (((gV x>>>c)%2:Nat):Int)):=by
    simp only[eL,pX,uk,Bool.false_eq_true,if_false,if_true]
    rfl
   have w4:IntKind.u8.wrap (((gV x>>>c)%2:Nat):Int)=((tM ((gV x).testBit c)).toNat:Int):=by
    rw[wrap_u8 (by omega) (by omega)]
    have:(gV x).testBit c=decide ((gV x>>>c)%2=1):=by
     rw[Nat.testBit,Nat.and_comm,Nat.and_one_is_mod]
     rcases Nat.mod_two_eq_zero_or_one (gV x>>>c)with h|h<;>simp[h]
    rw[this,tM]
    rcases Nat.mod_two_eq_zero_or_one (gV x>>>c)with h|h<;>simp[h]
   simp -dsimp -implicitDefEqProofs (disch:=first|omega|assumption|(simp only[rL,Nat.reduceAdd];try omega)) only[go_sem,simprocAttr,-List.reduceReplicate,f0,f3,f4,f5,la,D3,oJ AN,uj,a8R,w1,w2,w3,w4]
   refine ik Hp.aH (by simp[dS,AV.cells]) fun oa sa ha=> ?_
   refine sr (c4 @f0 @f3 @f4 @f5) ?_
   refine mc (hO.mono ha.sub) (by intro e he;obtain⟨q,_,rfl⟩:=List.mem_map.1 he;rfl) (by simp[dS,AV.cells]) (by simp only[List.length_cons,List.length_nil,List.length_map];omega) (by simp only[List.length_cons,List.length_nil,List.length_map];omega) fun ob sb hb=> ?_
   have em:ms.map bN++ [AV.v (.int .u8 ((tM ((gV x).testBit c)).toNat:Int))]=(ms++ [tM ((gV x).testBit c)]).map bN:=by rw[List.map_append];rfl
   rw[em]at hb⊢
   refine sr (c4 @f0 @f3 @f4 @f5) ?_
   refine⟨⟨i+1,_,ob,by omega,?_,hb,by simp⟩,by omega⟩
   rw[Pj,ht,List.map_append,List.append_assoc];rfl
  ·obtain rfl:i=p.length:=by omega
   rw[List.take_length]at Pj
   refine sr (c7 @f0 @f3 @f4 @f5 @g4 @la @D3) ?_
   refine⟨⟨c,ms,lo,by omega,?_,hO,by simp⟩,by omega⟩
   rw[Pj,←hc,au.qX,List.map_map,List.map_map];rfl
 ·obtain rfl:b=0:=by omega
  rw[au.kb,List.map_nil,List.append_nil]at hc
  subst hc
  refine sr (c4 @f0 @f3 @f4 @aW) ?_
  exact⟨_,Hp.aH,lo,hO,rfl⟩
theorem a5P (n:Nat) (l:List Bool) (i:Nat) (h:i<n):au.vH (n - i) (l.drop (8*i))=UInt8.ofNat (au.val ((l.drop (8*i)).take 8))::au.vH (n -(i+1)) (l.drop (8*(i+1))):=by
 rw[show n - i=(n -(i+1))+1 by omega,au.vH,List.drop_drop,show 8*(i+1)=8*i+8 by omega]
theorem Re: ∀(l:List Bool) (b:Bool),au.val (l++ [b])=2*au.val l+(if b=true then 1 else 0)
 | [],b=>by simp[au.val]
 |x::l,b=>by
  simp only[List.cons_append,au.val,List.length_append,List.length_cons,List.length_nil,Nat.zero_add,Re l b,Nat.pow_succ]
  split<;>omega
theorem a54 (l:List Bool) (n:Nat) (hl:l.length=8*n) (o:Own) (s:Hp) (hn:n≤100000):
  AC Tryz.prog 152 [.sl ((l.map tM).map bN) o] s fun r s'=> ∃o',dx s s' 1 ((au.vH n l).map bN) o'∧r= .sl ((au.vH n l).map bN) o':=by
 refine cR hm a9S (by simp) ?_
 have hL:((l.map tM).map bN).length=8*n:=by simp[hl]
 refine dD ?_
 refine fS (fun f s'=> ∃(i:Nat) (ls:List UInt8) (lo:Own),i≤n∧ls++au.vH (n - i) (l.drop (8*i))=au.vH n l∧ls.length=i∧dx s s' 1 (ls.map bN) lo∧f 0= .sl ((l.map tM).map bN) o∧f 3= .sl (ls.map bN) lo∧f 4= .v (.int .i64 ((8*i:Nat):Int)))
  (fun f _=>match f 4 with| .v (.int _ m)=>8*n - m.toNat| _=>0) ⟨0,[],.nil,by omega,rfl,rfl,dx.nil Hp.aH,?_⟩ ?_
 ·exact nE
 rintro f s5 ⟨i,ls,lo,hi,hc,C9,hO,f0,f3,f4⟩
 by_cases aW:((8*i:Nat):Int)+7<((8*n:Nat):Int)
 ·rw[a5P n l i (by omega)]at hc
  refine sr (c5 @f0 @f3 @f4 @hL @aW) ?_
  refine fS (fun f s'=> ∃j:Nat,j≤8∧s'=s5∧f 0= .sl ((l.map tM).map bN) o∧f 3= .sl (ls.map bN) lo∧f 4= .v (.int .i64 ((8*i:Nat):Int))∧f 5= .v (.int .u8 (au.val ((l.drop (8*i)).take j):Int))∧f 6= .v (.int .i64 j))
   (fun f _=>match f 6 with| .v (.int _ m)=>8 - m.toNat| _=>0) ⟨0,by omega,rfl,?_⟩ ?_
  ·refine sr (c3 @f0 @f3 @f4) ?_
   rfl
  have g4:=f4
  clear f0 f3 f4
  rintro f' s6 ⟨j,hj,rfl,f0,f3,f4,f5,f6⟩
  by_cases D3:(j:Int)<8
  ·have hg:l[8*i+j]? =some l[8*i+j]:=List.getElem?_eq_getElem (by omega)
   have ht:(l.drop (8*i)).take (j+1)=(l.drop (8*i)).take j++ [l[8*i+j]]:=by
    rw[List.take_add_one,List.getElem?_drop,hg];rfl
   generalize l[8*i+j]'(by omega)=b at hg ht
   have hv:=au.CH ((l.drop (8*i)).take (j+1))
   have UR:au.val ((l.drop (8*i)).take (j+1))<256:=Nat.lt_of_lt_of_le hv (by
    have:((l.drop (8*i)).take (j+1)).length≤8:=by rw[List.length_take];omega
    exact Nat.pow_le_pow_right (by omega) this)
   rw[ht,Re]at UR
   have ib:kQ 1 (.sl ((l.map tM).map bN) o) (.v (.int .i64 (((8*i:Nat):Int)+(j:Int))))=some (.eJ [.v (.int .u8 ((tM b).toNat:Int))]):=by
    rw[show((8*i:Nat):Int)+(j:Int)=((8*i+j:Nat):Int) by omega,mN (by omega)]
    rw[Int.toNat_natCast,List.getElem?_map,List.getElem?_map,hg];rfl
   have lb1:k9 false 1 s6 (.eJ [.v (.int .u8 ((tM b).toNat:Int))])=some (.v (.int .u8 ((tM b).toNat:Int))):=rfl
   have eb:((tM b).toNat:Int)=if b=true then 1 else 0:=by cases b<;>rfl
   generalize hV:au.val ((l.drop (8*i)).take j)=V at*
   have ju:(if b=true then 1 else 0:Nat)≤1:=by split<;>omega
   have w1:IntKind.u8.wrap (2*(V:Int))=((2*V:Nat):Int):=by rw[wrap_u8 (by omega) (by omega)];omega
   have w2:IntKind.u8.wrap (((2*V:Nat):Int)+((tM b).toNat:Int))=((2*V+(if b=true then 1 else 0):Nat):Int):=by
    rw[eb,wrap_u8 (by split<;>omega) (by split<;>omega)];split<;>simp
   have bm:eL .mul (.int .u8 2) (.int .u8 (V:Int))=some (.int .u8 ((2*V:Nat):Int)):=by
    rw[←w1];simp[eL,pX,uk]
   have ba:eL .add (.int .u8 ((2*V:Nat):Int)) (.int .u8 ((tM b).toNat:Int))=some (.int .u8 ((2*V+(if b=true then 1 else 0):Nat):Int)):=by
    rw[←w2];simp[eL,pX,uk]
   refine sr (gP @f0 @f3 @f4 @f5 @f6 @D3 @ib @lb1 @bm @ba) ?_
   refine⟨⟨j+1,by omega,?_,by simp⟩,by omega⟩
   rw[ht,Re,hV]
  ·obtain rfl:j=8:=by omega
   refine sr (c6 @f0 @f3 @f4 @f5 @f6 @D3) ?_
   refine ik Hp.aH (by simp[dS,AV.cells]) fun oa sa ha=> ?_
   refine sr (c5 @f0 @f3 @f4 @f5 @f6) ?_
   refine mc (hO.mono ha.sub) (by intro e he;obtain⟨q,_,rfl⟩:=List.mem_map.1 he;rfl) (by simp[dS,AV.cells]) (by simp only[List.length_cons,List.length_nil,List.length_map];omega) (by simp only[List.length_cons,List.length_nil,List.length_map];omega) fun ob sb hb=> ?_
   have hv:=au.CH ((l.drop (8*i)).take 8)
   have UR:au.val ((l.drop (8*i)).take 8)<256:=Nat.lt_of_lt_of_le hv (by
    have:((l.drop (8*i)).take 8).length≤8:=by rw[List.length_take];omega
    exact Nat.pow_le_pow_right (by omega) this)
   have eu:AV.v (.int .u8 (au.val ((l.drop (8*i)).take 8):Int))=bN (UInt8.ofNat (au.val ((l.drop (8*i)).take 8))):=by
    show _=AV.v (.int .u8 ((UInt8.ofNat (au.val ((l.drop (8*i)).take 8))).toNat:Int))
    rw[UInt8.toNat_ofNat',Nat.mod_eq_of_lt UR]
   have em:ls.map bN++ [AV.v (.int .u8 (au.val ((l.drop (8*i)).take 8):Int))]=(ls++ [UInt8.ofNat (au.val ((l.drop (8*i)).take 8))]).map bN:=by rw[eu,List.map_append];rfl
   rw[em]at hb⊢
   refine sr (c6 @f0 @f3 @f4 @f5 @f6 @g4) ?_
   refine⟨⟨i+1,_,ob,by omega,?_,by simp[C9],hb,by simp;omega⟩,by omega⟩
   rw[←hc,List.append_assoc];rfl
 ·obtain rfl:i=n:=by omega
  rw[Nat.sub_self,au.vH,List.append_nil]at hc
  subst hc
  refine sr (c5 @f0 @f3 @f4 @hL @aW) ?_
  exact⟨_,Hp.aH,lo,hO,rfl⟩
def codeF (p:List Int):List UInt8:=au.vH (8*p.length) (au.kb (p.map gV) 64)
theorem MX (p:List Int):(codeF p).length=8*p.length:=au.WI _ _
theorem Xh (p:List Int) (o:Own) (s:Hp) (hp:p.length≤1000):
  AC Tryz.prog 114 [.sl (bA p) o] s fun r s'=>s.sub s'∧ ∃o',r= .sl ((codeF p).map bN) o':=by
 refine cR hm a9v (by simp) ?_
 refine dD ?_
 refine bC (a5O p o s hp) ?_
 rintro _ s1 ⟨o1,h1,rfl⟩
 refine dD ?_
 refine bC (a54 (au.kb (p.map gV) 64) (8*p.length) (by rw[A7];omega) o1 s1 (by omega)) ?_
 rintro _ s2 ⟨o2,h2,rfl⟩
 refine dD ?_
 exact⟨_,Hp.aH,Hp.cy h1.sub h2.sub,o2,rfl⟩
def tN (p q:List Int):Bool:=if p.length=q.length then Op.bytesLess (codeF p) (codeF q)else decide (p.length<q.length)
theorem abx (a b:List UInt8):Ix .lss (vL a) (vL b)=some (.v (.bool (Op.bytesLess a b))):=by
 show(eL .lss (.string ⟨a.toArray⟩) (.string ⟨b.toArray⟩)).map AV.v= _
 simp only[eL,Ki,toList_mk,Option.map_some]
theorem a55 (p q:List Int) (o o2:Own) (s:Hp):
  AC Tryz.prog 113 [.sl ((codeF p).map bN) o,.sl ((codeF q).map bN) o2] s fun r s'=>s'=s∧r= .v (.bool (tN p q)):=by
 refine cR hm a9u (by simp) ?_
 have l1:((codeF p).map bN).length=8*p.length:=by rw[List.length_map,MX]
 have l2:((codeF q).map bN).length=8*q.length:=by rw[List.length_map,MX]
 have e1:CV (.sl ((codeF p).map bN) o)=some (vL (codeF p)):=JS
 have e2:CV (.sl ((codeF q).map bN) o2)=some (vL (codeF q)):=JS
 unfold tN
 by_cases h:p.length=q.length
 ·have h':((8*p.length:Nat):Int)=((8*q.length:Nat):Int):=by omega
  refine sr (c6 @l1 @l2 @h' @e1 @e2 @abx) ?_
  exact⟨_,Hp.aH,rfl,by rw[if_pos h]⟩
 ·have h': ¬((8*p.length:Nat):Int)=((8*q.length:Nat):Int):=by omega
  refine sr (c5 @l1 @l2 @h' @e1 @e2) ?_
  refine⟨_,Hp.aH,rfl,?_⟩
  rw[if_neg h]
  have:decide (((8*p.length:Nat):Int)<((8*q.length:Nat):Int))=decide (p.length<q.length):=by
   have:(((8*p.length:Nat):Int)<((8*q.length:Nat):Int))↔p.length<q.length:=by omega
   simp only[this]
  rw[this]
theorem Xi (p q:List Int) (o o2:Own) (s:Hp) (hp:p.length≤1000) (hq:q.length≤1000):
  AC Tryz.prog 81 [.sl (bA p) o,.sl (bA q) o2] s fun r s'=>s.sub s'∧r= .v (.bool (tN p q)):=by
 refine cR hm adt (by simp) ?_
 refine dD ?_
 refine bC (Xh p o s hp) ?_
 rintro _ s1 ⟨h1,o1,rfl⟩
 refine dD ?_
 refine bC (Xh q o2 s1 hq) ?_
 rintro _ s2 ⟨h2,o3,rfl⟩
 refine dD ?_
 refine bC (a55 p q o1 o3 s2) ?_
 rintro _ s2 ⟨rfl,rfl⟩
 refine dD ?_
 exact⟨_,Hp.aH,Hp.cy h1 h2⟩
theorem XZ: ∀ {a b:List UInt8},a.length=b.length→Op.bytesLess a b=au.KV a b
 | [],[],_=>rfl
 |x::a,y::b,h=>by
  have h':a.length=b.length:=by simpa using h
  simp only[Op.bytesLess,au.KV,XZ h']
  by_cases e:x=y
  ·subst e;simp
  ·simp[e]
theorem Y0 (p q:List Int): ∀(l:List (Int×Int)) (st:(Int×Int)×Nat),(l.map fun c=>(gV c.1,gV c.2)).foldl au.pick ((gV st.1.1,gV st.1.2),st.2)=((gV (l.foldl sQ st).1.1,gV (l.foldl sQ st).1.2),(l.foldl sQ st).2)
 | [],st=>rfl
 |c::l,st=>by
  simp only[List.map_cons,List.foldl_cons]
  rw[←Y0 p q l]
  congr 1
  simp only[au.pick,sQ]
  split<;>rfl
structure fJ (d:Nat) (p:List Int):Prop where
 len:p.length=d
 EL:pC p
theorem WQ (p q:List Int):(p.map gV).zip (q.map gV)=(p.zip q).map fun c=>(gV c.1,gV c.2):=by
 rw[List.zip_map];rfl
theorem a8S {st:(Int×Int)×Nat}: ∀(l:List (Int×Int)),(l.foldl sQ st).1=st.1∨(l.foldl sQ st).1∈l:=by
 intro l
 induction l generalizing st with
 |nil=>exact .inl rfl
 |cons c l ih=>
  rw[List.foldl_cons]
  rcases ih (st:=sQ st c)with h|h
  ·rw[h]
   unfold sQ
   split
   ·exact .inr (by simp)
   ·exact .inl rfl
  ·exact .inr (by simp[h])
theorem HJ {d:Nat} (bq:1≤d) (bg:d≤8) {p q:List Int} (hp:fJ d p) (hq:fJ d q):da p q=au.lexB (au.kb (p.map gV) 64) (au.kb (q.map gV) 64):=by
 unfold da
 have h1:=hp.len;have h2:=hq.len
 rw[if_pos ⟨by omega,by omega,by omega⟩]
 have hz:p.zip q≠ []:=by
  intro e
  have:=congrArg List.length e
  rw[List.length_zip,List.length_nil]at this
  omega
 obtain⟨c,l,hc⟩: ∃c l,p.zip q=c::l:=by
  cases h:p.zip q with
  |nil=>exact absurd h hz
  |cons c l=>exact⟨c,l,rfl⟩
 have Ui:(p.zip q).headD (0,0)=c:=by rw[hc];rfl
 rw[Ui]
 have key:=au.Zr 64 (p.map gV) (q.map gV) (by simp;omega) (fun c hc=>by
  obtain⟨a,b⟩:=c
  have hm:=List.of_mem_zip hc
  obtain⟨x,_,rfl⟩:=List.mem_map.1 hm.1
  obtain⟨y,_,rfl⟩:=List.mem_map.1 hm.2
  exact Nat.xor_lt_two_pow (n:=64) (E2 _) (E2 _)) (gV c.1,gV c.2) (by rw[WQ,hc];simp)
 rw[WQ,Y0 p q (p.zip q) (c,0)]at key
 rw[←Bool.coe_iff_coe,decide_eq_true_eq]
 rw[←key]
 simp only
 have qx:((p.zip q).foldl sQ (c,0)).1∈p.zip q:=by
  rcases a8S (st:=(c,0)) (p.zip q)with h|h
  ·rw[h,hc];simp
  ·exact h
 generalize ((p.zip q).foldl sQ (c,0)).1=e at qx
 obtain⟨x,y⟩:=e
 have hm:=List.of_mem_zip qx
 have b1:=hp.EL x hm.1
 have b2:=hq.EL y hm.2
 have n1:=Np b1.1 b1.2
 have n2:=Np b2.1 b2.2
 simp only
 omega
theorem QU {d:Nat} (bq:1≤d) (bg:d≤8) {p q:List Int} (hp:fJ d p) (hq:fJ d q):tN p q=da p q:=by
 have h1:=hp.len;have h2:=hq.len
 rw[HJ bq bg hp hq]
 unfold tN
 rw[if_pos (by omega),XZ (by rw[MX,MX];omega)]
 unfold codeF
 rw[h1,h2]
 exact au.XT (8*d) _ _ (by rw[A7,h1];omega) (by rw[A7,h2];omega)
theorem YF: ∀(p:List Int),∀c∈p.zip p,c.1=c.2
 | [],c,hc=>by cases hc
 |x::p,c,hc=>by
  rw[List.zip_cons_cons]at hc
  rcases List.mem_cons.1 hc with rfl|hc
  ·rfl
  ·exact YF p c hc
theorem vC (p:List Int):da p p=false:=by
 unfold da
 split
 ·have: ∀(l:List (Int×Int)) (st:(Int×Int)×Nat),(∀c∈l,c.1=c.2)→st.1.1=st.1.2→(l.foldl sQ st).1.1=(l.foldl sQ st).1.2:=by
   intro l
   induction l with
   |nil=>intro st _ h;exact h
   |cons c l ih=>
    intro st hl h
    rw[List.foldl_cons]
    refine ih _ (fun c hc=>hl c (by simp[hc])) ?_
    unfold sQ
    split
    ·exact hl c (by simp)
    ·exact h
  have hz: ∀c∈p.zip p,c.1=c.2:=YF p
  have hd:((p.zip p).headD (0,0)).1=((p.zip p).headD (0,0)).2:=by
   cases h:p.zip p with
   |nil=>rfl
   |cons c l=>exact hz c (by rw[h];simp)
  have:=this (p.zip p) ((p.zip p).headD (0,0),0) hz hd
  rw[this];simp
 ·rfl
theorem ry {d:Nat} (bq:1≤d) (bg:d≤8):au.Ord da (fJ d) where
 LK:=vC
 trans p q r hp hq hr h1 h2:=by
  rw[HJ bq bg hp hq]at h1
  rw[HJ bq bg hq hr]at h2
  rw[HJ bq bg hp hr]
  exact au.a5G (by rw[A7,A7,hp.len,hq.len]) (by rw[A7,A7,hq.len,hr.len]) h1 h2
 total p q hp hq h1 h2:=by
  rw[HJ bq bg hp hq]at h1
  rw[HJ bq bg hq hp]at h2
  have:=au.a5H (by rw[A7,A7,hp.len,hq.len]) h1 h2
  have h3:=au.aej (P:=p.map gV) (Q:=q.map gV) (by simp[hp.len,hq.len]) 64 this (fun x hx=>by obtain⟨y,_,rfl⟩:=List.mem_map.1 hx;exact E2 y) (fun x hx=>by obtain⟨y,_,rfl⟩:=List.mem_map.1 hx;exact E2 y)
  refine List.ext_getElem? fun i=> ?_
  have h4:=congrArg (fun l=>l[i]?) h3
  simp only[List.getElem?_map]at h4
  cases AN:p[i]? with
  |none=>rw[AN]at h4;cases Du:q[i]? with
   |none=>rfl
   |some y=>rw[Du]at h4;cases h4
  |some x=>rw[AN]at h4;cases Du:q[i]? with
   |none=>rw[Du]at h4;cases h4
   |some y=>
    rw[Du]at h4
    simp only[Option.map_some,Option.some.injEq]at h4
    have b1:=hp.EL x (List.mem_of_getElem? AN)
    have b2:=hq.EL y (List.mem_of_getElem? Du)
    have n1:=Np b1.1 b1.2
    have n2:=Np b2.1 b2.2
    congr 1;omega
theorem Xj (l:List (List Int)) (lv:List AV) (o op:Own) (p:List Int) (s:Hp) (hA:cn isRow l lv) (hn:l.length≤1000) (hr: ∀r∈l,r.length≤1000) (hp:p.length≤1000):
  AC Tryz.prog 50 [.sl lv o,.sl (bA p) op] s fun r s'=>s.sub s'∧ ∃rv o',r= .sl rv o'∧cn isRow (au.mC tN l p) rv:=by
 refine cR hm ad0 (by simp) ?_
 have hl:=hA.len
 refine dD ?_
 refine fS (fun f s'=> ∃(i:Nat) (ov:List AV) (lo:Own),i≤l.length∧cn isRow (l.take i) ov∧dx s s' 1 ov lo∧(∀x∈l.take i,tN x p=true)∧f 0= .sl lv o∧f 1= .sl (bA p) op∧f 5= .sl ov lo∧f 6= .v (.int .i64 i))
  (fun f _=>match f 6 with| .v (.int _ m)=>l.length - m.toNat| _=>0) ⟨0,[],.nil,by omega,trivial,dx.nil Hp.aH,by simp,?_⟩ ?_
 ·exact nE
 rintro f s5 ⟨i,ov,lo,hi,hO,hW,hx,f0,f1,f5,f6⟩
 have qd:=hO.len
 rw[List.length_take]at qd
 have tail: ∀(s6:Hp),dx s s6 1 ov lo→(i=l.length∨ ∃x,l[i]? =some x∧tN x p=false)→au.mC tN l p=l.take i++p::l.drop i:=by
  intro s6 _ a0G
  unfold au.mC
  have e1:l.takeWhile (fun x=>tN x p)=l.take i:=by
   conv=>lhs;rw[←List.take_append_drop i l]
   rw[List.takeWhile_append_of_pos hx]
   rcases a0G with rfl|⟨x,h1,h2⟩
   ·simp
   ·obtain⟨h3,rfl⟩:=List.getElem?_eq_some_iff.1 h1
    rw[List.drop_eq_getElem_cons h3,List.takeWhile_cons,h2];simp
  have e2:l.dropWhile (fun x=>tN x p)=l.drop i:=by
   conv=>lhs;rw[←List.take_append_drop i l]
   rw[List.dropWhile_append_of_pos hx]
   rcases a0G with rfl|⟨x,h1,h2⟩
   ·simp
   ·obtain⟨h3,rfl⟩:=List.getElem?_eq_some_iff.1 h1
    rw[List.drop_eq_getElem_cons h3,List.dropWhile_cons,h2];simp
  rw[e1,e2]
 have tW:ng 1 (.sl lv o) (some (.v (.int .i64 (i:Int)))) none=some (.sl (lv.drop i) .any):=by
  have:=zW (k:=1) (xs:=lv) (o:=o) (kd:= .i64) (a:=(i:Int)) (by omega) (by omega) (hA.cells fun _ _=>isRow.cells)
  simpa using this
 by_cases aW:(i:Int)<lv.length
 ·have hg:l[i]? =some l[i]:=List.getElem?_eq_getElem (by omega)
  have ht:l.take (i+1)=l.take i++ [l[i]]:=by rw[List.take_add_one,hg];rfl
  have gW:=hr _ (List.getElem_mem (l:=l) (n:=i) (by omega))
  generalize l[i]'(by omega)=x at hg ht gW
  obtain⟨va,ga,o3,rfl⟩:=hA.get hg
  obtain⟨p9,e9,gl⟩:=(Sl.sl (s:=s) (o:=o) (hA.cells fun _ _=>isRow.cells)).get i _ ga
  have gj: ∀s',s.sub s'→k9 false 1 s' p9=some (.sl (bA x) o3):=fun s' h=>by rw[gl.ld s' h false 1 (by omega) (by simp[AV.cells])];rfl
  have ld5:=gj s5 hW.sub
  refine sr (c7 @f0 @f1 @f5 @f6 @aW @e9 @ld5) ?_
  refine bC (Xi x p o3 op s5 gW hp) ?_
  rintro _ s6 ⟨h6,rfl⟩
  have Pm:=hW.mono h6
  have ld6:=gj s6 Pm.sub
  cases hc:tN x p with
  |true=>
   refine sr (c7 @f0 @f1 @f5 @f6 @aW @e9 @ld6) ?_
   refine ik Hp.aH (by simp[dS,AV.cells]) fun oa sa ha=> ?_
   refine sr (c4 @f0 @f1 @f5 @f6) ?_
   refine mc (Pm.mono ha.sub) (hO.cells fun _ _=>isRow.cells) (by simp[dS,AV.cells]) (by simp only[List.length_cons,List.length_nil];omega) (by simp only[List.length_cons,List.length_nil];omega) fun ob sb hb=> ?_
   refine sr (c4 @f0 @f1 @f5 @f6) ?_
   refine⟨⟨i+1,_,ob,by omega,by rw[ht];exact hO.snoc ⟨o3,rfl⟩,hb,?_,by simp⟩,by omega⟩
   rw[ht]
   intro y hy
   rcases List.mem_append.1 hy with hy|hy
   ·exact hx y hy
   ·rw[List.mem_singleton.1 hy];exact hc
  |false=>
   refine sr (c5 @f0 @f1 @f5 @f6 @aW) ?_
   refine ik Hp.aH (by simp[dS,AV.cells]) fun oa sa ha=> ?_
   refine sr (c4 @f0 @f1 @f5 @f6) ?_
   refine mc (Pm.mono ha.sub) (hO.cells fun _ _=>isRow.cells) (by simp[dS,AV.cells]) (by simp only[List.length_cons,List.length_nil];omega) (by simp only[List.length_cons,List.length_nil];omega) fun ob sb hb=> ?_
   have wm:cn isRow (l.take i++ [p]) (ov++ [.sl (bA p) op]):=hO.snoc ⟨op,rfl⟩
   have Tj:=wm.len
   refine sr (c5 @f0 @f1 @f5 @f6 @tW) ?_
   have hD:=hA.drop i
   have iv:=hD.len
   simp only[List.length_drop]at iv
   simp only[List.length_append,List.length_take,List.length_singleton,List.length_cons,List.length_nil]at Tj
   refine mc hb (wm.cells fun _ _=>isRow.cells) (hD.cells fun _ _=>isRow.cells) (by simp only[List.length_append,List.length_singleton,List.length_cons,List.length_nil,List.length_drop];omega) (by simp only[List.length_append,List.length_singleton,List.length_cons,List.length_nil,List.length_drop];omega) fun oc sc wY=> ?_
   refine sr (c4 @f0 @f1 @f5 @f6) ?_
   refine⟨_,Hp.aH,wY.sub,_,oc,rfl,?_⟩
   rw[tail _ Pm (.inr ⟨x,hg,hc⟩),show p::l.drop i= [p]++l.drop i from rfl,←List.append_assoc]
   exact wm.append hD
 ·obtain rfl:i=l.length:=by omega
  refine sr (c5 @f0 @f1 @f5 @f6 @aW) ?_
  refine ik Hp.aH (by simp[dS,AV.cells]) fun oa sa ha=> ?_
  refine sr (c4 @f0 @f1 @f5 @f6) ?_
  refine mc (hW.mono ha.sub) (hO.cells fun _ _=>isRow.cells) (by simp[dS,AV.cells]) (by simp only[List.length_cons,List.length_nil];omega) (by simp only[List.length_cons,List.length_nil];omega) fun ob sb hb=> ?_
  have wm:cn isRow (l.take l.length++ [p]) (ov++ [.sl (bA p) op]):=hO.snoc ⟨op,rfl⟩
  have Tj:=wm.len
  refine sr (c5 @f0 @f1 @f5 @f6 @tW) ?_
  have hD:=hA.drop l.length
  have iv:=hD.len
  simp only[List.length_drop]at iv
  simp only[List.length_append,List.length_take,List.length_singleton,List.length_cons,List.length_nil]at Tj
  refine mc hb (wm.cells fun _ _=>isRow.cells) (hD.cells fun _ _=>isRow.cells) (by simp only[List.length_append,List.length_singleton,List.length_cons,List.length_nil,List.length_drop];omega) (by simp only[List.length_append,List.length_singleton,List.length_cons,List.length_nil,List.length_drop];omega) fun oc sc wY=> ?_
  refine sr (c4 @f0 @f1 @f5 @f6) ?_
  refine⟨_,Hp.aH,wY.sub,_,oc,rfl,?_⟩
  rw[tail _ hW (.inl rfl),show p::l.drop l.length= [p]++l.drop l.length from rfl,←List.append_assoc]
  exact wm.append hD
def nQ (n:Nat):List Nat:=(List.range (au.cQ n)).map fun i=>n/au.cQ n+if i<n%au.cQ n then 1 else 0
def lR (l:List Nat):List AV:=l.map fun(k:Nat)=>AV.v (.int .i64 (k:Int))
theorem ZB {l:List Nat}{i k:Nat} (h:l[i]? =some k) (o:Own):kQ 1 (.sl (lR l) o) (.v (.int .i64 (i:Int)))=some (.eJ [.v (.int .i64 (k:Int))]):=by
 rw[mN (by omega),Int.toNat_natCast]
 unfold lR
 rw[List.getElem?_map,h];rfl
theorem WR (n:Nat) (hn:n≤1000) (s:Hp):
  AC Tryz.prog 108 [.v (.int .i64 (n:Int))] s fun r s'=>s.sub s'∧ ∃o,r= .sl (lR (nQ n)) o:=by
 refine cR hm a9p (by simp) ?_
 have q1:(n:Int).tdiv 4=((n/4:Nat):Int):=rfl
 have main: ∀(f:Fr) (G:Nat),G=au.cQ n→f 0= .v (.int .i64 (n:Int))→f 3= .v (.int .i64 (G:Int))→True:=fun _ _ _ _ _=>trivial
 by_cases hr:(4:Int)*((n/4:Nat):Int)<n
 ·have hG:((n/4:Nat):Int)+1=(au.cQ n:Int):=by unfold au.cQ;omega
  refine sr (c3 @q1 @hr @hG) ?_
  clear hG hr q1 main
  refine fS (fun f s'=> ∃(i:Nat) (ls:List Nat) (lo:Own),i≤au.cQ n∧ls=(nQ n).take i∧dx s s' 1 (lR ls) lo∧f 0= .v (.int .i64 (n:Int))∧f 3= .v (.int .i64 (au.cQ n:Int))∧f 4= .sl (lR ls) lo∧f 5= .v (.int .i64 i))
   (fun f _=>match f 5 with| .v (.int _ m)=>au.cQ n - m.toNat| _=>0) ⟨0,[],.nil,by omega,rfl,(show dx s s 1 (lR []) .nil from dx.nil Hp.aH),?_⟩ ?_
  ·refine dD ?_
   rfl
  rintro f s5 ⟨i,ls,lo,hi,Bb,hO,f0,f3,f4,f5⟩
  have nX:(nQ n).length=au.cQ n:=by simp[nQ]
  have C9:(lR ls).length=i:=by rw[lR,List.length_map,Bb,List.length_take,nX];omega
  have hgn:au.cQ n≤n+1:=by unfold au.cQ;omega
  by_cases aW:(i:Int)<(au.cQ n:Int)
  ·have hk:(nQ n)[i]? =some (n/au.cQ n+if i<n%au.cQ n then 1 else 0):=by
    unfold nQ
    rw[List.getElem?_map,List.getElem?_range (by omega)];rfl
   have ht:(nQ n).take (i+1)=(nQ n).take i++ [n/au.cQ n+if i<n%au.cQ n then 1 else 0]:=by rw[List.take_add_one,hk];rfl
   have AP: ¬(au.cQ n:Int)=0:=by omega
   have w1:(n:Int).tdiv (au.cQ n:Int)=((n/au.cQ n:Nat):Int):=rfl
   have w2:(n:Int).tmod (au.cQ n:Int)=((n%au.cQ n:Nat):Int):=rfl
   have bq:=Nat.div_le_self n (au.cQ n)
   generalize au.cQ n=G at*
   generalize n/G=K at*
   generalize n%G=R at*
   by_cases hc:(i:Int)<(R:Int)
   ·have ek:(K:Int)+1=((K+if i<R then 1 else 0:Nat):Int):=by rw[if_pos (by omega)];omega
    refine sr (gP @f0 @f3 @f4 @f5 @aW @AP @w1 @w2 @hc @ek) ?_
    refine ik Hp.aH (by simp[dS,AV.cells]) fun oa sa ha=> ?_
    refine sr (c4 @f0 @f3 @f4 @f5) ?_
    refine mc (hO.mono ha.sub) (by intro e he;obtain⟨q,_,rfl⟩:=List.mem_map.1 he;rfl) (by simp[dS,AV.cells]) (by simp only[List.length_cons,List.length_nil];omega) (by simp only[List.length_cons,List.length_nil];omega) fun ob sb hb=> ?_
    have em:lR ls++ [AV.v (.int .i64 ((K+if i<R then 1 else 0:Nat):Int))]=lR (ls++ [K+if i<R then 1 else 0]):=by rw[lR,lR,List.map_append];rfl
    rw[em]at hb⊢
    refine sr (c4 @f0 @f3 @f4 @f5) ?_
    exact⟨⟨i+1,_,ob,by omega,by rw[ht,←Bb],hb,by simp⟩,by omega⟩
   ·have ek:(K:Int)=((K+if i<R then 1 else 0:Nat):Int):=by rw[if_neg (by omega)];omega
    refine sr (c9 @f0 @f3 @f4 @f5 @aW @AP @w1 @w2 @hc) ?_
    refine ik Hp.aH (by simp[dS,AV.cells]) fun oa sa ha=> ?_
    refine sr (c4 @f0 @f3 @f4 @f5) ?_
    refine mc (hO.mono ha.sub) (by intro e he;obtain⟨q,_,rfl⟩:=List.mem_map.1 he;rfl) (by simp[dS,AV.cells]) (by simp only[List.length_cons,List.length_nil];omega) (by simp only[List.length_cons,List.length_nil];omega) fun ob sb hb=> ?_
    have em:lR ls++ [AV.v (.int .i64 (K:Int))]=lR (ls++ [K+if i<R then 1 else 0]):=by rw[ek,lR,lR,List.map_append];rfl
    rw[em]at hb⊢
    refine sr (c4 @f0 @f3 @f4 @f5) ?_
    exact⟨⟨i+1,_,ob,by omega,by rw[ht,←Bb],hb,by simp⟩,by omega⟩
  ·obtain rfl:i=au.cQ n:=by omega
   rw[List.take_of_length_le (by omega)]at Bb
   subst Bb
   refine sr (c5 @f0 @f3 @f4 @f5 @aW) ?_
   exact⟨_,Hp.aH,hO.sub,lo,rfl⟩
 ·have hG:((n/4:Nat):Int)=(au.cQ n:Int):=by unfold au.cQ;omega
  rw[hG]at hr q1
  refine sr (c2 @q1 @hr) ?_
  clear hG hr q1 main
  refine fS (fun f s'=> ∃(i:Nat) (ls:List Nat) (lo:Own),i≤au.cQ n∧ls=(nQ n).take i∧dx s s' 1 (lR ls) lo∧f 0= .v (.int .i64 (n:Int))∧f 3= .v (.int .i64 (au.cQ n:Int))∧f 4= .sl (lR ls) lo∧f 5= .v (.int .i64 i))
   (fun f _=>match f 5 with| .v (.int _ m)=>au.cQ n - m.toNat| _=>0) ⟨0,[],.nil,by omega,rfl,(show dx s s 1 (lR []) .nil from dx.nil Hp.aH),?_⟩ ?_
  ·refine dD ?_
   rfl
  rintro f s5 ⟨i,ls,lo,hi,Bb,hO,f0,f3,f4,f5⟩
  have nX:(nQ n).length=au.cQ n:=by simp[nQ]
  have C9:(lR ls).length=i:=by rw[lR,List.length_map,Bb,List.length_take,nX];omega
  have hgn:au.cQ n≤n+1:=by unfold au.cQ;omega
  by_cases aW:(i:Int)<(au.cQ n:Int)
  ·have hk:(nQ n)[i]? =some (n/au.cQ n+if i<n%au.cQ n then 1 else 0):=by
    unfold nQ
    rw[List.getElem?_map,List.getElem?_range (by omega)];rfl
   have ht:(nQ n).take (i+1)=(nQ n).take i++ [n/au.cQ n+if i<n%au.cQ n then 1 else 0]:=by rw[List.take_add_one,hk];rfl
   have AP: ¬(au.cQ n:Int)=0:=by omega
   have w1:(n:Int).tdiv (au.cQ n:Int)=((n/au.cQ n:Nat):Int):=rfl
   have w2:(n:Int).tmod (au.cQ n:Int)=((n%au.cQ n:Nat):Int):=rfl
   have bq:=Nat.div_le_self n (au.cQ n)
   generalize au.cQ n=G at*
   generalize n/G=K at*
   generalize n%G=R at*
   by_cases hc:(i:Int)<(R:Int)
   ·have ek:(K:Int)+1=((K+if i<R then 1 else 0:Nat):Int):=by rw[if_pos (by omega)];omega
    refine sr (gP @f0 @f3 @f4 @f5 @aW @AP @w1 @w2 @hc @ek) ?_
    refine ik Hp.aH (by simp[dS,AV.cells]) fun oa sa ha=> ?_
    refine sr (c4 @f0 @f3 @f4 @f5) ?_
    refine mc (hO.mono ha.sub) (by intro e he;obtain⟨q,_,rfl⟩:=List.mem_map.1 he;rfl) (by simp[dS,AV.cells]) (by simp only[List.length_cons,List.length_nil];omega) (by simp only[List.length_cons,List.length_nil];omega) fun ob sb hb=> ?_
    have em:lR ls++ [AV.v (.int .i64 ((K+if i<R then 1 else 0:Nat):Int))]=lR (ls++ [K+if i<R then 1 else 0]):=by rw[lR,lR,List.map_append];rfl
    rw[em]at hb⊢
    refine sr (c4 @f0 @f3 @f4 @f5) ?_
    exact⟨⟨i+1,_,ob,by omega,by rw[ht,←Bb],hb,by simp⟩,by omega⟩
   ·have ek:(K:Int)=((K+if i<R then 1 else 0:Nat):Int):=by rw[if_neg (by omega)];omega
    refine sr (c9 @f0 @f3 @f4 @f5 @aW @AP @w1 @w2 @hc) ?_
    refine ik Hp.aH (by simp[dS,AV.cells]) fun oa sa ha=> ?_
    refine sr (c4 @f0 @f3 @f4 @f5) ?_
    refine mc (hO.mono ha.sub) (by intro e he;obtain⟨q,_,rfl⟩:=List.mem_map.1 he;rfl) (by simp[dS,AV.cells]) (by simp only[List.length_cons,List.length_nil];omega) (by simp only[List.length_cons,List.length_nil];omega) fun ob sb hb=> ?_
    have em:lR ls++ [AV.v (.int .i64 (K:Int))]=lR (ls++ [K+if i<R then 1 else 0]):=by rw[ek,lR,lR,List.map_append];rfl
    rw[em]at hb⊢
    refine sr (c4 @f0 @f3 @f4 @f5) ?_
    exact⟨⟨i+1,_,ob,by omega,by rw[ht,←Bb],hb,by simp⟩,by omega⟩
  ·obtain rfl:i=au.cQ n:=by omega
   rw[List.take_of_length_le (by omega)]at Bb
   subst Bb
   refine sr (c5 @f0 @f3 @f4 @f5 @aW) ?_
   exact⟨_,Hp.aH,hO.sub,lo,rfl⟩
end Go.Proofs.YtonldhgdjjfahaaGreat
namespace Go.Av
open Go
def BP (s s':Hp):Prop:= ∀b cs,s b=some (.cells cs)→s' b=some (.cells cs)
theorem Hp.rz {s s':Hp} (h:s.sub s'):BP s s':=fun b cs hb=>h _ _ hb
theorem BP.trans {a b c:Hp} (h:BP a b) (h2:BP b c):BP a c:=fun x cs hx=>h2 _ _ (h _ _ hx)
theorem Fp {s s0:Hp}{k bytes:Nat}{xs ys:List AV}{o o2:Own}{C:AV→Hp→Prop}{d:jH C} (h:dx s0 s k xs o) (h1:dS k xs) (h2:dS k ys) (h3:(xs.length+ys.length)*bytes≤140737488355328) (h4:xs.length+ys.length≤9223372036854775807)
  (hk: ∀o' s',dx s0 s' k (xs++ys) o'→BP s s'→C (.sl (xs++ys) o') s'):KS k bytes s (.sl xs o) (.sl ys o2) (jX C d):=by
 obtain⟨B,hB,Ub,hB0,hBx⟩:=h.kz
 refine mc hB h1 h2 h3 h4 fun o' s' h'=>hk o' s' (h'.base hB0) fun b cs hb=>h'.sub _ _ ?_
 rw[hBx b (fun g c e=>by subst e;rintro rfl;rw[h.2.2]at hb;cases hb)];exact hb
end Go.Av
namespace Go.Proofs.YtonldhgdjjfahaaGreat
open Go Go.Av
def dh (s:Hp):(h:Nat)→au.T h→AV→Prop
 |0,t,a=> ∃b rv o o2,a= .ptr b 0∧s b=some (.cells [.sl rv o,.sl [] o2])∧cn isRow (au.rows t) rv
 |h+1,t,a=> ∃b kv o o2,a= .ptr b 0∧s b=some (.cells [.sl [] o2,.sl kv o])∧cn (dh s h) (au.kids t) kv∧au.kids t≠ []∧(au.kids t).length≤1000
theorem dh.jq {s s':Hp} (hs:BP s s'): ∀ {h:Nat}{t:au.T h}{a:AV},dh s h t a→dh s' h t a
 |0,t,a,⟨b,rv,o,o2,h1,h2,h3⟩=>⟨b,rv,o,o2,h1,hs _ _ h2,h3⟩
 |h+1,t,a,⟨b,kv,o,o2,h1,h2,h3,h4⟩=>⟨b,kv,o,o2,h1,hs _ _ h2,h3.mono fun _ _=>dh.jq hs,h4⟩
theorem dh.mono {s s':Hp} (hs:s.sub s') {h:Nat}{t:au.T h}{a:AV} (ht:dh s h t a):dh s' h t a:=ht.jq (Hp.rz hs)
theorem dh.cells {s:Hp}{h:Nat}{t:au.T h}{a:AV} (ht:dh s h t a):a.cells.length=1:=by
 cases h with
 |zero=>obtain⟨b,_,_,_,rfl,_⟩:=ht;rfl
 |succ h=>obtain⟨b,_,_,_,rfl,_⟩:=ht;rfl
theorem dh.ptr {s:Hp}{h:Nat}{t:au.T h}{a:AV} (ht:dh s h t a): ∃b x y,a= .ptr b 0∧s b=some (.cells [x,y]):=by
 cases h with
 |zero=>obtain⟨b,_,_,_,rfl,h2,_⟩:=ht;exact⟨b,_,_,rfl,h2⟩
 |succ h=>obtain⟨b,_,_,_,rfl,h2,_⟩:=ht;exact⟨b,_,_,rfl,h2⟩
theorem RD {α:Type}: ∀(g:Nat) (l:List α),g≤l.length→ ∀c∈au.ni g l,c≠ []
 |0,l,_,c,hc=>by cases hc
 |g+1,l,hg,c,hc=>by
  have hd:=Nat.div_add_mod l.length (g+1)
  have hm:=Nat.mod_lt l.length (Nat.succ_pos g)
  have hq:1≤l.length/(g+1):=(Nat.le_div_iff_mul_le (Nat.succ_pos g)).2 (by omega)
  rw[au.ni]at hc
  generalize l.length/(g+1)=q at*
  generalize l.length%(g+1)=r at*
  have hmul:(g+1)*q=g*q+q:=by rw[Nat.add_mul];omega
  have hgq:g≤g*q:=Nat.le_mul_of_pos_right _ (by omega)
  rcases List.mem_cons.1 hc with rfl|hc
  ·intro e
   have:=congrArg List.length e
   rw[List.length_take]at this
   simp only[List.length_nil]at this
   split at this<;>omega
  ·exact RD g _ (by rw[List.length_drop];split<;>omega) c hc
theorem a0h {n:Nat}:au.cQ n≤n:=by unfold au.cQ;omega
theorem Y1 {α:Type} (l:List α):au.chunks l=(List.range (au.cQ l.length)).map fun i=>(l.drop (i*(l.length/au.cQ l.length)+min i (l.length%au.cQ l.length))).take (l.length/au.cQ l.length+if i<l.length%au.cQ l.length then 1 else 0):=au.Zs _ _
theorem Qc (l:List (List Int)) (lv:List AV) (o:Own) (s:Hp) (hA:cn isRow l lv) (hn:l.length≤1000):
  AC Tryz.prog 73 [.sl lv o] s fun r s'=>s.sub s'∧ ∃tv o',r= .sl tv o'∧cn (dh s' 0) ((au.chunks l).map au.leaf) tv:=by
 refine cR hm adl (by simp) ?_
 have e0: ∀cs,(AV.agg cs).cells=cs:=fun _=>rfl
 have u0: ∀a b x:AV,putAt [a,b] 0 [x]= [x,b]:=fun _ _ _=>rfl
 have u1: ∀a b x:AV,putAt [a,b] 1 [x]= [a,x]:=fun _ _ _=>rfl
 have l2: ∀a b:AV,[a,b].length=2:=fun _ _=>rfl
 have er: ∀(z:List AV) (p:Own),(AV.sl z p).cells= [.sl z p]:=fun _ _=>rfl
 have hl:=hA.len
 have DG:dS 1 lv:=hA.cells fun _ _=>isRow.cells
 have gX:(lv.length:Int)=(l.length:Int):=by omega
 refine sr @gX ?_
 refine bC (WR l.length hn s) ?_
 rintro _ s1 ⟨h1,oz,rfl⟩
 have nX:(nQ l.length).length=au.cQ l.length:=by simp[nQ]
 have ye:(lR (nQ l.length)).length=au.cQ l.length:=by rw[lR,List.length_map,nX]
 have M5:=Y1 l
 have Tk:=a0h (n:=l.length)
 refine sr @ye ?_
 have Tl: ∀i,i≤au.cQ l.length→i*(l.length/au.cQ l.length)+min i (l.length%au.cQ l.length)≤l.length:=by
  intro i hi
  have hd:=Nat.div_add_mod l.length (au.cQ l.length)
  have:=Nat.mul_le_mul_right (l.length/au.cQ l.length) hi
  omega
 refine fS (fun f s'=> ∃(i:Nat) (tv:List AV) (lo:Own),i≤au.cQ l.length∧cn (dh s' 0) (((au.chunks l).map au.leaf).take i) tv∧dx s s' 1 tv lo∧f 0= .sl lv o∧f 3= .sl tv lo∧f 4= .v (.int .i64 ((i*(l.length/au.cQ l.length)+min i (l.length%au.cQ l.length):Nat):Int))∧f 5= .sl (lR (nQ l.length)) oz∧f 6= .v (.int .i64 i))
  (fun f _=>match f 6 with| .v (.int _ m)=>au.cQ l.length - m.toNat| _=>0) ⟨0,[],.nil,by omega,trivial,dx.nil h1,?_⟩ ?_
 ·refine dD ?_
  simp
 rintro f s5 ⟨i,tv,lo,hi,hT,hO,f0,f3,f4,f5,f6⟩
 have im:(au.chunks l).length=au.cQ l.length:=zX.1
 have US:=hT.len
 rw[List.length_take,List.length_map,im]at US
 by_cases aW:(i:Int)<(au.cQ l.length:Int)
 ·have hk:(nQ l.length)[i]? =some (l.length/au.cQ l.length+if i<l.length%au.cQ l.length then 1 else 0):=by
   unfold nQ
   rw[List.getElem?_map,List.getElem?_range (by omega)];rfl
  have M6:(au.chunks l)[i]? =some ((l.drop (i*(l.length/au.cQ l.length)+min i (l.length%au.cQ l.length))).take (l.length/au.cQ l.length+if i<l.length%au.cQ l.length then 1 else 0)):=by
   rw[M5,List.getElem?_map,List.getElem?_range (by omega)];rfl
  have bI:=RD (au.cQ l.length) l Tk _ (List.mem_of_getElem? M6)
  have tf:=Tl (i+1) (by omega)
  have EE:(i+1)*(l.length/au.cQ l.length)+min (i+1) (l.length%au.cQ l.length)=i*(l.length/au.cQ l.length)+min i (l.length%au.cQ l.length)+(l.length/au.cQ l.length+if i<l.length%au.cQ l.length then 1 else 0):=by
   rw[Nat.add_mul];split<;>omega
  rw[EE]at tf
  have ht:((au.chunks l).map au.leaf).take (i+1)=((au.chunks l).map au.leaf).take i++ [au.leaf ((l.drop (i*(l.length/au.cQ l.length)+min i (l.length%au.cQ l.length))).take (l.length/au.cQ l.length+if i<l.length%au.cQ l.length then 1 else 0))]:=by
   rw[List.take_add_one,List.getElem?_map,M6];rfl
  have iz:=ZB hk oz
  generalize hAT:i*(l.length/au.cQ l.length)+min i (l.length%au.cQ l.length)=at_ at*
  generalize (l.length/au.cQ l.length+if i<l.length%au.cQ l.length then 1 else 0)=k at*
  have GR:(at_:Int)+(k:Int)=((at_+k:Nat):Int):=by omega
  have tW:ng 1 (.sl lv o) (some (.v (.int .i64 (at_:Int)))) (some (.v (.int .i64 ((at_+k:Nat):Int))))=some (.sl ((lv.drop at_).take k) .any):=by
   have:=Qq (k:=1) (xs:=lv) (o:=o) (kd:= .i64) (kd':= .i64) (a:=(at_:Int)) (b:=((at_+k:Nat):Int)) (by omega) (by omega) (by omega) DG
   rw[this]
   rw[Int.toNat_natCast,Int.toNat_natCast,List.drop_take];congr 3;omega
  have hD:cn isRow ((l.drop at_).take k) ((lv.drop at_).take k):=(hA.drop at_).take k
  have iv:((lv.drop at_).take k).length≤1000:=by rw[List.length_take,List.length_drop];omega
  refine sr (kg @f0 @f3 @f4 @f5 @f6 @ye @aW @iz @uj @GR @tW) ?_
  refine ik Hp.aH (by intro e he;cases he) fun oe se he=> ?_
  refine sr (kg @f0 @f3 @f4 @f5 @f6 @ye @aW @iz @uj @GR @tW) ?_
  refine mc he (by intro e he;cases he) (hD.cells fun _ _=>isRow.cells) (by simp only[List.length_nil];omega) (by simp only[List.length_nil];omega) fun oa sa ha=> ?_
  refine sr (kg @f0 @f3 @f4 @f5 @f6 @List.nil_append.{0} @e0 @u0 @u1 @l2 @er) ?_
  refine cP fun x nx=> ?_
  rw[List.nil_append]at ha
  have Cb:=ha.sub
  have UT:=Cb
  obtain⟨sb,Ba⟩: ∃sb:Hp,sb=sa.set x (.cells [.sl ((lv.drop at_).take k) oa,.sl [] .nil]):=⟨_,rfl⟩
  have GF:sa.sub sb:=by rw[Ba];exact Hp.bT Hp.aH nx
  have cx:sb x=some (.cells [.sl ((lv.drop at_).take k) oa,.sl [] .nil]):=by rw[Ba,Hp.bt]
  refine sr (gP @f0 @f3 @f4 @f5 @f6 @e0 @u0 @u1 @l2 @er) ?_
  refine ik Hp.aH (by intro e he;simp only[List.mem_singleton]at he;subst he;rfl) fun oc sc hc=> ?_
  refine sr (c5 @f0 @f3 @f4 @f5 @f6) ?_
  replace hc:dx sb sc 1 [.ptr x 0] oc:=by rw[Ba];exact hc
  have Jj:s5.sub sc:=Hp.cy UT (Hp.cy GF hc.sub)
  refine Fp (hO.mono Jj) (hT.cells fun _ _=>dh.cells) (by intro e he;simp only[List.mem_singleton]at he;subst he;rfl) (by simp only[List.length_cons,List.length_nil];omega) (by simp only[List.length_cons,List.length_nil];omega) fun od sd hd EM=> ?_
  refine sr (gP @f0 @f3 @f4 @f5 @f6 @ye @aW @iz @uj @GR) ?_
  refine⟨⟨i+1,_,od,by omega,?_,hd,?_⟩,by omega⟩
  ·rw[ht]
   have M7:cn (dh sd 0) _ _:=hT.mono fun _ _=>dh.jq ((Hp.rz Jj).trans EM)
   exact M7.snoc ⟨x,_,oa,.nil,rfl,EM _ _ (hc.sub _ _ cx),hD⟩
  ·rw[EE];simp
 ·obtain rfl:i=au.cQ l.length:=by omega
  rw[List.take_of_length_le (by rw[List.length_map,im];omega)]at hT
  refine sr (c7 @f0 @f3 @f4 @f5 @f6 @ye @aW) ?_
  exact⟨_,Hp.aH,hO.sub,tv,lo,rfl,hT⟩
theorem MC {h:Nat} (s0:Hp) (l:List (au.T h)) (lv:List AV) (o:Own) (s:Hp) (hA:cn (dh s0 h) l lv) (hn:l.length≤1000) (zx:s0.sub s):
  AC Tryz.prog 72 [.sl lv o] s fun r s'=>s.sub s'∧ ∃tv o',r= .sl tv o'∧cn (dh s' (h+1)) ((au.chunks l).map au.node) tv:=by
 refine cR hm adk (by simp) ?_
 have e0: ∀cs,(AV.agg cs).cells=cs:=fun _=>rfl
 have u0: ∀a b x:AV,putAt [a,b] 0 [x]= [x,b]:=fun _ _ _=>rfl
 have u1: ∀a b x:AV,putAt [a,b] 1 [x]= [a,x]:=fun _ _ _=>rfl
 have l2: ∀a b:AV,[a,b].length=2:=fun _ _=>rfl
 have er: ∀(z:List AV) (p:Own),(AV.sl z p).cells= [.sl z p]:=fun _ _=>rfl
 have hl:=hA.len
 have DG:dS 1 lv:=hA.cells fun _ _=>dh.cells
 have gX:(lv.length:Int)=(l.length:Int):=by omega
 refine sr @gX ?_
 refine bC (WR l.length hn s) ?_
 rintro _ s1 ⟨h1,oz,rfl⟩
 have nX:(nQ l.length).length=au.cQ l.length:=by simp[nQ]
 have ye:(lR (nQ l.length)).length=au.cQ l.length:=by rw[lR,List.length_map,nX]
 have M5:=Y1 l
 have Tk:=a0h (n:=l.length)
 refine sr @ye ?_
 have Tl: ∀i,i≤au.cQ l.length→i*(l.length/au.cQ l.length)+min i (l.length%au.cQ l.length)≤l.length:=by
  intro i hi
  have hd:=Nat.div_add_mod l.length (au.cQ l.length)
  have:=Nat.mul_le_mul_right (l.length/au.cQ l.length) hi
  omega
 refine fS (fun f s'=> ∃(i:Nat) (tv:List AV) (lo:Own),i≤au.cQ l.length∧cn (dh s' (h+1)) (((au.chunks l).map au.node).take i) tv∧dx s s' 1 tv lo∧f 0= .sl lv o∧f 3= .sl tv lo∧f 4= .v (.int .i64 ((i*(l.length/au.cQ l.length)+min i (l.length%au.cQ l.length):Nat):Int))∧f 5= .sl (lR (nQ l.length)) oz∧f 6= .v (.int .i64 i))
  (fun f _=>match f 6 with| .v (.int _ m)=>au.cQ l.length - m.toNat| _=>0) ⟨0,[],.nil,by omega,trivial,dx.nil h1,?_⟩ ?_
 ·refine dD ?_
  simp
 rintro f s5 ⟨i,tv,lo,hi,hT,hO,f0,f3,f4,f5,f6⟩
 have im:(au.chunks l).length=au.cQ l.length:=zX.1
 have US:=hT.len
 rw[List.length_take,List.length_map,im]at US
 by_cases aW:(i:Int)<(au.cQ l.length:Int)
 ·have hk:(nQ l.length)[i]? =some (l.length/au.cQ l.length+if i<l.length%au.cQ l.length then 1 else 0):=by
   unfold nQ
   rw[List.getElem?_map,List.getElem?_range (by omega)];rfl
  have M6:(au.chunks l)[i]? =some ((l.drop (i*(l.length/au.cQ l.length)+min i (l.length%au.cQ l.length))).take (l.length/au.cQ l.length+if i<l.length%au.cQ l.length then 1 else 0)):=by
   rw[M5,List.getElem?_map,List.getElem?_range (by omega)];rfl
  have bI:=RD (au.cQ l.length) l Tk _ (List.mem_of_getElem? M6)
  have tf:=Tl (i+1) (by omega)
  have EE:(i+1)*(l.length/au.cQ l.length)+min (i+1) (l.length%au.cQ l.length)=i*(l.length/au.cQ l.length)+min i (l.length%au.cQ l.length)+(l.length/au.cQ l.length+if i<l.length%au.cQ l.length then 1 else 0):=by
   rw[Nat.add_mul];split<;>omega
  rw[EE]at tf
  have ht:((au.chunks l).map au.node).take (i+1)=((au.chunks l).map au.node).take i++ [au.node ((l.drop (i*(l.length/au.cQ l.length)+min i (l.length%au.cQ l.length))).take (l.length/au.cQ l.length+if i<l.length%au.cQ l.length then 1 else 0))]:=by
   rw[List.take_add_one,List.getElem?_map,M6];rfl
  have iz:=ZB hk oz
  generalize hAT:i*(l.length/au.cQ l.length)+min i (l.length%au.cQ l.length)=at_ at*
  generalize (l.length/au.cQ l.length+if i<l.length%au.cQ l.length then 1 else 0)=k at*
  have GR:(at_:Int)+(k:Int)=((at_+k:Nat):Int):=by omega
  have tW:ng 1 (.sl lv o) (some (.v (.int .i64 (at_:Int)))) (some (.v (.int .i64 ((at_+k:Nat):Int))))=some (.sl ((lv.drop at_).take k) .any):=by
   have:=Qq (k:=1) (xs:=lv) (o:=o) (kd:= .i64) (kd':= .i64) (a:=(at_:Int)) (b:=((at_+k:Nat):Int)) (by omega) (by omega) (by omega) DG
   rw[this]
   rw[Int.toNat_natCast,Int.toNat_natCast,List.drop_take];congr 3;omega
  have hD:cn (dh s0 h) ((l.drop at_).take k) ((lv.drop at_).take k):=(hA.drop at_).take k
  have iv:((lv.drop at_).take k).length≤1000:=by rw[List.length_take,List.length_drop];omega
  refine sr (kg @f0 @f3 @f4 @f5 @f6 @ye @aW @iz @uj @GR @tW) ?_
  refine ik Hp.aH (by intro e he;cases he) fun oe se he=> ?_
  refine sr (kg @f0 @f3 @f4 @f5 @f6 @ye @aW @iz @uj @GR @tW) ?_
  refine mc he (by intro e he;cases he) (hD.cells fun _ _=>dh.cells) (by simp only[List.length_nil];omega) (by simp only[List.length_nil];omega) fun oa sa ha=> ?_
  refine sr (kg @f0 @f3 @f4 @f5 @f6 @List.nil_append.{0} @e0 @u0 @u1 @l2 @er) ?_
  refine cP fun x nx=> ?_
  rw[List.nil_append]at ha
  have Cb:=ha.sub
  have UT:=Cb
  obtain⟨sb,Ba⟩: ∃sb:Hp,sb=sa.set x (.cells [.sl [] .nil,.sl ((lv.drop at_).take k) oa]):=⟨_,rfl⟩
  have GF:sa.sub sb:=by rw[Ba];exact Hp.bT Hp.aH nx
  have cx:sb x=some (.cells [.sl [] .nil,.sl ((lv.drop at_).take k) oa]):=by rw[Ba,Hp.bt]
  refine sr (gP @f0 @f3 @f4 @f5 @f6 @e0 @u0 @u1 @l2 @er) ?_
  refine ik Hp.aH (by intro e he;simp only[List.mem_singleton]at he;subst he;rfl) fun oc sc hc=> ?_
  refine sr (c5 @f0 @f3 @f4 @f5 @f6) ?_
  replace hc:dx sb sc 1 [.ptr x 0] oc:=by rw[Ba];exact hc
  have Jj:s5.sub sc:=Hp.cy UT (Hp.cy GF hc.sub)
  refine Fp (hO.mono Jj) (hT.cells fun _ _=>dh.cells) (by intro e he;simp only[List.mem_singleton]at he;subst he;rfl) (by simp only[List.length_cons,List.length_nil];omega) (by simp only[List.length_cons,List.length_nil];omega) fun od sd hd EM=> ?_
  refine sr (gP @f0 @f3 @f4 @f5 @f6 @ye @aW @iz @uj @GR) ?_
  refine⟨⟨i+1,_,od,by omega,?_,hd,?_⟩,by omega⟩
  ·rw[ht]
   have M7:cn (dh sd (h+1)) _ _:=hT.mono fun _ _=>dh.jq ((Hp.rz Jj).trans EM)
   exact M7.snoc ⟨x,_,oa,.nil,rfl,EM _ _ (hc.sub _ _ cx),hD.mono fun _ _=>dh.jq (((Hp.rz zx).trans (Hp.rz (Hp.cy hO.sub Jj))).trans EM),bI,by have:=hD.len;show((l.drop at_).take k).length≤1000;omega⟩
  ·rw[EE];simp
 ·obtain rfl:i=au.cQ l.length:=by omega
  rw[List.take_of_length_le (by rw[List.length_map,im];omega)]at hT
  refine sr (c7 @f0 @f3 @f4 @f5 @f6 @ye @aW) ?_
  exact⟨_,Hp.aH,hO.sub,tv,lo,rfl,hT⟩
end Go.Proofs.YtonldhgdjjfahaaGreat
namespace Go.au
variable {lt:Row→Row→Bool}{ok:Row→Prop}
theorem HZ {β:Type}{l:List β}{i:Nat}{c:β} (h:l[i]? =some c):l=l.take i++c::l.drop (i+1):=by
 obtain⟨hi,rfl⟩:=List.getElem?_eq_some_iff.1 h
 rw[←List.drop_eq_getElem_cons hi,List.take_append_drop]
theorem MY (O:Ord lt ok) {p:Row} (hp:ok p) {h:Nat}{ks:List (T h)} (h1:ks≠ []) (hw: ∀c∈ks,1≤len c∧AO h c) (hs:pw lt (ks.flatMap (cX h))) (cj: ∀x∈ks.flatMap (cX h),ok x):
  ∃c,ks[jK lt p (ks.map (iW h))]? =some c∧(∀x∈(ks.take (jK lt p (ks.map (iW h)))).flatMap (cX h),lt x p=true)∧(∀x∈(ks.drop (jK lt p (ks.map (iW h))+1)).flatMap (cX h),lt p x=true):=by
 have e:ks.map (iW h)=(ks.map (cX h)).map (·.headD []):=by rw[List.map_map];rfl
 rw[List.flatMap_def]at hs cj
 obtain⟨i1,i2,i3⟩:=XW O hp (ks.map (cX h)) (by simpa using h1) (fun l hl=>by
  obtain⟨c,hc,rfl⟩:=List.mem_map.1 hl
  exact Rw (hw c hc).1 (hw c hc).2) hs cj
 rw[←e]at i1 i2 i3
 rw[←List.map_take,←List.flatMap_def]at i2
 rw[←List.map_drop,←List.flatMap_def]at i3
 exact⟨_,List.getElem?_eq_getElem (by simpa using i1),i2,i3⟩
theorem K6 (O:Ord lt ok) {p:Row} (hp:ok p): ∀(h:Nat) (t:T h),yk h t→pw lt (cX h t)→(∀x∈cX h t,ok x)→p∉cX h t→
  (nj lt p h t).flatMap (cX h)=mC lt (cX h t) p∧(∀c∈nj lt p h t,WF h c)∧1≤(nj lt p h t).length∧(nj lt p h t).length≤2:=by
 intro h
 induction h with
 |zero=>
  intro t hw hs cj hn
  obtain⟨l,rfl⟩:=rT t
  obtain⟨w1,w2,_,_⟩:=hw
  rw[uX]at w1 w2
  obtain⟨a,b,c,_⟩:=XU (l:=mC lt l p) (by rw[DT];omega) (by rw[DT];omega)
  exact⟨WJ _,a,by simpa[nj,HI] using b,by simpa[nj,HI] using c⟩
 |succ h ih=>
  intro t hw hs cj hn
  obtain⟨ks,rfl⟩:=pv t
  obtain⟨w1,w2,w3,w4⟩:=hw
  rw[ma]at w1 w2 w4
  have w4:=w4 (by omega)
  rw[pW]at hs cj hn⊢
  have r9: ∀c∈ks,WF h c:=w3
  obtain⟨c,hc,h1,h2⟩:=MY O hp (ks:=ks) (by intro e;subst e;simp at w1) (fun c hc=>by have:=sO.1 (r9 c hc);exact⟨by omega,this.2.2⟩) hs cj
  simp only[nj,qq]
  generalize jK lt p (ks.map (iW h))=i at hc h1 h2
  rw[hc]
  have jt:=HZ hc
  have rr:ks.flatMap (cX h)=(ks.take i).flatMap (cX h)++(cX h c++(ks.drop (i+1)).flatMap (cX h)):=by
   conv=>lhs;rw[jt]
   rw[List.flatMap_append,List.flatMap_cons]
  rw[rr]at hs cj hn⊢
  have hsc:=(List.pairwise_append.1 (List.pairwise_append.1 hs).2.1).1
  obtain⟨j1,j2,j3,j4⟩:=ih c (yk.of (r9 c (List.mem_of_getElem? hc))) hsc (fun x hx=>cj x (by simp[hx])) (fun hx=>hn (by simp[hx]))
  have hlen:(ks.take i++nj lt p h c++ks.drop (i+1)).length=ks.length - 1+(nj lt p h c).length:=by
   obtain⟨hi,_⟩:=List.getElem?_eq_some_iff.1 hc
   simp;omega
  obtain⟨a,b,d,_⟩:=XV (l:=ks.take i++nj lt p h c++ks.drop (i+1)) (by rw[hlen];omega) (by rw[hlen];omega) (fun x hx=>by
   simp only[List.mem_append]at hx
   rcases hx with (hx|hx)|hx
   ·exact r9 x (List.mem_of_mem_take hx)
   ·exact j2 x hx
   ·exact r9 x (List.mem_of_mem_drop hx))
  refine⟨?_,a,by simpa using b,by simpa using d⟩
  simp only[]
  rw[Xe,List.flatMap_append,List.flatMap_append,j1,MV h1,a5I (A:=cX h c),List.append_assoc]
  intro x hx
  cases Jk:lt x p with
  |false=>rfl
  |true=>
   have:=O.trans x p x (cj x (by simp[hx])) hp (cj x (by simp[hx])) Jk (h2 x hx)
   rw[O.LK]at this;cases this
theorem Y3 {h:Nat}{a b:T h} (ha:AO h a) (hb:AO h b) (h2:2≤len a+len b) (h5:len a+len b≤5):
  (Ad a b).flatMap (cX h)=cX h a++cX h b∧(∀c∈Ad a b,WF h c)∧1≤(Ad a b).length∧(Ad a b).length≤2:=by
 cases h with
 |zero=>
  obtain⟨a,rfl⟩:=rT a;obtain⟨b,rfl⟩:=rT b
  rw[uX,uX]at h2 h5
  obtain⟨x,y,z,_⟩:=XU (l:=a++b) (by simpa using h2) (by simpa using h5)
  simp only[Ad,HI,vE]
  exact⟨WJ _,x,by simpa using y,by simpa using z⟩
 |succ h=>
  obtain⟨a,rfl⟩:=pv a;obtain⟨b,rfl⟩:=pv b
  rw[ma,ma]at h2 h5
  obtain⟨x,y,z,_⟩:=XV (l:=a++b) (by simpa using h2) (by simpa using h5) (fun c hc=>(List.mem_append.1 hc).elim (ha c) (hb c))
  simp only[Ad,qq,pW]
  exact⟨by rw[Xe,List.flatMap_append],x,by simpa using y,by simpa using z⟩
theorem filter_none {l:List Row}{p:Row} (h:p∉l):l.filter (fun x=>decide (x≠p))=l:=by
 rw[List.filter_eq_self]
 intro x hx
 simp only[decide_eq_true_eq]
 rintro rfl;exact h hx
theorem a5Q {l:List Row}{p:Row} (hs:pw lt l) (aiy: ∀p,lt p p=false):l.length - 1≤(l.filter fun x=>decide (x≠p)).length:=by
 induction l with
 |nil=>simp
 |cons a l ih=>
  have h1:=List.pairwise_cons.1 hs
  by_cases ha:a=p
  ·subst ha
   have:a∉l:=fun h=>by have:=h1.1 a h;rw[aiy]at this;cases this
   rw[List.filter_cons_of_neg (by simp),filter_none this]
   simp
  ·have ih:=ih h1.2
   rw[List.filter_cons_of_pos (by simpa using ha),List.length_cons,List.length_cons]
   omega
theorem I0 (O:Ord lt ok) {p:Row} (hp:ok p): ∀(h:Nat) (t:T h),yk h t→pw lt (cX h t)→(∀x∈cX h t,ok x)→
  cX h (ir lt p h t)=(cX h t).filter (fun x=>decide (x≠p))∧AO h (ir lt p h t)∧len t - 1≤len (ir lt p h t)∧len (ir lt p h t)≤4:=by
 intro h
 induction h with
 |zero=>
  intro t hw hs cj
  obtain⟨l,rfl⟩:=rT t
  obtain⟨w1,w2,_,_⟩:=hw
  rw[uX]at w1 w2
  simp only[ir,HI,vE,uX]at hs⊢
  exact⟨trivial,trivial,a5Q hs O.LK,by have:=List.length_filter_le (fun x=>decide (x≠p)) l;omega⟩
 |succ h ih=>
  intro t hw hs cj
  obtain⟨ks,rfl⟩:=pv t
  obtain⟨w1,w2,w3,w4⟩:=hw
  rw[ma]at w1 w2 w4
  have w4:=w4 (by omega)
  rw[pW]at hs cj⊢
  have r9: ∀c∈ks,WF h c:=w3
  obtain⟨c,hc,h1,h2⟩:=MY O hp (ks:=ks) (by intro e;subst e;simp at w1) (fun c hc=>by have:=sO.1 (r9 c hc);exact⟨by omega,this.2.2⟩) hs cj
  simp only[ir,qq,ma]
  generalize jK lt p (ks.map (iW h))=i at hc h1 h2
  rw[hc]
  simp only[qq,ma,pW]
  have jt:=HZ hc
  obtain⟨hi,_⟩:=List.getElem?_eq_some_iff.1 hc
  have rr:ks.flatMap (cX h)=(ks.take i).flatMap (cX h)++(cX h c++(ks.drop (i+1)).flatMap (cX h)):=by
   conv=>lhs;rw[jt]
   rw[List.flatMap_append,List.flatMap_cons]
  have zx:=hs;have apb:=cj
  rw[rr]at hs cj
  have hwc:=r9 c (List.mem_of_getElem? hc)
  have apc:=sO.1 hwc
  obtain⟨j1,j2,j3,j4⟩:=ih c (yk.of hwc) (List.pairwise_append.1 (List.pairwise_append.1 hs).2.1).1 (fun x hx=>cj x (by simp[hx]))
  generalize ir lt p h c=x at j1 j2 j3 j4
  have f1:((ks.take i).flatMap (cX h)).filter (fun x=>decide (x≠p))=(ks.take i).flatMap (cX h):=filter_none fun hx=>by
   have:=h1 p hx;rw[O.LK]at this;cases this
  have f2:((ks.drop (i+1)).flatMap (cX h)).filter (fun x=>decide (x≠p))=(ks.drop (i+1)).flatMap (cX h):=filter_none fun hx=>by
   have:=h2 p hx;rw[O.LK]at this;cases this
  have a1p:(ks.flatMap (cX h)).filter (fun x=>decide (x≠p))=(ks.take i).flatMap (cX h)++(cX h x++(ks.drop (i+1)).flatMap (cX h)):=by
   rw[rr,List.filter_append,List.filter_append,f1,f2,j1]
  rw[a1p]
  unfold Ed
  by_cases jG:2≤len x
  ·rw[if_pos jG]
   have e:ks.set i x=ks.take i++x::ks.drop (i+1):=by rw[List.set_eq_take_append_cons_drop,if_pos hi]
   refine⟨by rw[e,List.flatMap_append,List.flatMap_cons],fun d hd=> ?_,by simp,by simpa using w2⟩
   rw[qq,e]at hd
   simp only[List.mem_append,List.mem_cons]at hd
   rcases hd with hd|rfl|hd
   ·exact r9 d (List.mem_of_mem_take hd)
   ·exact sO.2 ⟨jG,j4,j2⟩
   ·exact r9 d (List.mem_of_mem_drop hd)
  ·rw[if_neg jG]
   have gW:len x=1:=by omega
   by_cases xm:i=0
   ·subst xm
    have lF:ks[1]? =some ks[1]:=List.getElem?_eq_getElem (by omega)
    simp only[if_true]
    rw[lF]
    simp only[Nat.zero_sub,List.take_zero,List.nil_append,Nat.zero_add,List.flatMap_nil]at a1p⊢
    generalize ks[1]=o at lF
    have ho:=r9 o (List.mem_of_getElem? lF)
    have AI:=sO.1 ho
    obtain⟨a,b,d,e⟩:=Y3 (a:=x) (b:=o) j2 AI.2.2 (by omega) (by omega)
    have bq:ks.drop 1=o::ks.drop 2:=by
     obtain⟨h9,rfl⟩:=List.getElem?_eq_some_iff.1 lF
     exact List.drop_eq_getElem_cons h9
    refine⟨by rw[List.flatMap_append,a,bq,List.flatMap_cons,List.append_assoc],fun q hq=> ?_,by simp;omega,by simp;omega⟩
    simp only[qq,List.mem_append]at hq
    rcases hq with hq|hq
    ·exact b q hq
    ·exact r9 q (List.mem_of_mem_drop hq)
   ·rw[if_neg xm]
    have lF:ks[i - 1]? =some ks[i - 1]:=List.getElem?_eq_getElem (by omega)
    rw[lF]
    simp only[if_neg xm]
    generalize ks[i - 1]=o at lF
    have ho:=r9 o (List.mem_of_getElem? lF)
    have AI:=sO.1 ho
    obtain⟨a,b,d,e⟩:=Y3 (a:=o) (b:=x) AI.2.2 j2 (by omega) (by omega)
    have bq:ks.take i=ks.take (i - 1)++ [o]:=by
     obtain⟨h9,rfl⟩:=List.getElem?_eq_some_iff.1 lF
     conv=>lhs;rw[show i=i - 1+1 by omega]
     rw[List.take_add_one,List.getElem?_eq_getElem h9];rfl
    have iR:i - 1+2=i+1:=by omega
    rw[iR]
    refine⟨by rw[List.flatMap_append,List.flatMap_append,a,bq,List.flatMap_append];simp,fun q hq=> ?_,by simp;omega,by simp;omega⟩
    simp only[qq,List.mem_append]at hq
    rcases hq with (hq|hq)|hq
    ·exact r9 q (List.mem_of_mem_take hq)
    ·exact b q hq
    ·exact r9 q (List.mem_of_mem_drop hq)
end Go.au
namespace Go.Proofs.YtonldhgdjjfahaaGreat
open Go Go.Av
abbrev TO:=Option ((h:Nat)×au.T h)
def qm (s:Hp) (t:TO) (a:AV):Prop:=
 match t with
 |none=>a= .v (.pointer none)
 |some ⟨h,t⟩=>dh s h t a
theorem qm.jq {s s':Hp} (hs:BP s s') {t:TO}{a:AV} (h:qm s t a):qm s' t a:=by
 match t with
 |none=>exact h
 |some ⟨_,_⟩=>exact dh.jq hs h
def NU {h:Nat}:List (au.T h)→TO
 | []=>none
 | [c]=>some ⟨h,c⟩
 |l=>some ⟨h+1,au.node l⟩
theorem a5R {h:Nat} (ks:List (au.T h)) (kv:List AV) (o:Own) (s:Hp) (hA:cn (dh s h) ks kv) (hn:ks.length≤4):
  AC Tryz.prog 41 [.sl kv o] s fun r s'=>s.sub s'∧qm s' (NU ks) r:=by
 refine cR hm acT (by simp) ?_
 have hl:=hA.len
 refine dD ?_
 refine fS (fun f s'=>s.sub s'∧((s'=s∧f 0= .sl kv o)∨(2≤ks.length∧ ∃a o',f 0= .sl [a] o'∧dh s' (h+1) (au.node ks) a)))
  (fun f _=>match f 0 with| .sl xs _=>xs.length| _=>0) ⟨Hp.aH,.inl ⟨rfl,?_⟩⟩ ?_
 ·exact nE
 rintro f s5 ⟨hs,⟨rfl,f0⟩|⟨h2,a,o',f0,hT⟩⟩
 ·by_cases aW:(1:Int)<kv.length
  ·refine sr (c2 @f0 @aW) ?_
   refine bC (MC s5 ks kv o s5 hA (by omega) Hp.aH) ?_
   rintro _ s6 ⟨h6,tv,ot,rfl,hT⟩
   rw[au.Cv (by omega) hn]at hT
   obtain⟨a,rfl⟩: ∃a,tv= [a]:=by
    have:=hT.len
    match tv,this with
    | [a],_=>exact⟨a,rfl⟩
   refine sr @f0 ?_
   exact⟨⟨h6,.inr ⟨by omega,a,ot,rfl,hT.1⟩⟩,by omega⟩
  ·cases ks with
   |nil=>
    obtain rfl:kv= []:=List.eq_nil_of_length_eq_zero (by simpa using hl)
    have z0:(([]:List AV).length:Int)=0:=rfl
    refine sr (c3 @f0 @aW @z0) ?_
    exact⟨_,Hp.aH,Hp.aH,rfl⟩
   |cons c ks=>
    have hk:ks= []:=List.eq_nil_of_length_eq_zero (by simp at hl;omega)
    subst hk
    obtain⟨a,rfl⟩: ∃a,kv= [a]:=by
     match kv,hl with
     | [a],_=>exact⟨a,rfl⟩
    have z1:(([a]:List AV).length:Int)=1:=rfl
    have sj:=hA.1.cells
    have i1:kQ 1 (.sl [a] o) (.v (.int .i64 0))=some (.eJ a.cells):=by rw[mN (by omega)];exact qR sj
    obtain⟨b,x,y,rfl,_⟩:=dh.ptr hA.1
    have ec:(AV.ptr b 0).cells= [.ptr b 0]:=rfl
    have ml:k9 false 1 s5 (.eJ [.ptr b 0])=some (.ptr b 0):=rfl
    refine sr (c6 @f0 @aW @z1 @i1 @ec @ml) ?_
    exact⟨_,Hp.aH,Hp.aH,hA.1⟩
 ·have z1:(([a]:List AV).length:Int)=1:=rfl
  have sj:=hT.cells
  have i1:kQ 1 (.sl [a] o') (.v (.int .i64 0))=some (.eJ a.cells):=by rw[mN (by omega)];exact qR sj
  obtain⟨b,x,y,rfl,_⟩:=dh.ptr hT
  have ec:(AV.ptr b 0).cells= [.ptr b 0]:=rfl
  have ml:k9 false 1 s5 (.eJ [.ptr b 0])=some (.ptr b 0):=rfl
  refine sr (c5 @f0 @z1 @i1 @ec @ml) ?_
  refine⟨_,Hp.aH,hs,?_⟩
  match ks,h2 with
  |c::c2::r,_=>exact hT
theorem MZ: ∀(h:Nat) (t:au.T h) (a:AV) (s:Hp),dh s h t a→(au.cX h t).length≤100000→
  AC Tryz.prog 13 [a] s fun r s'=>s.sub s'∧ ∃rv o,r= .sl rv o∧cn isRow (au.cX h t) rv:=by
 intro h
 induction h with
 |zero=>
  rintro t a s ⟨b,rv,o,o2,rfl,hb,hA⟩ hn
  have m0: ∀a b:AV,cK false 1 [a,b]=a:=fun _ _=>rfl
  have m1: ∀a b:AV,cK false 1 ([a,b].drop 1)=b:=fun _ _=>rfl
  have hl:=hA.len
  have hn':(au.rows t).length≤100000:=hn
  refine cR hm RL (by simp) ?_
  refine sr (c2 (Hp.aV hb) @m0) ?_
  refine ik Hp.aH (by intro e he;cases he) fun oe se he=> ?_
  have ju:=he.sub _ _ hb
  refine sr (c2 (Hp.aV ju) @m0) ?_
  refine Fp he (by intro e he;cases he) (hA.cells fun _ _=>isRow.cells) (by simp only[List.length_nil];omega) (by simp only[List.length_nil];omega) fun oa sa ha EM=> ?_
  rw[List.nil_append]at ha
  refine sr @List.nil_append.{0} ?_
  refine fS (fun f s'=>s'=sa∧f 0= .ptr b 0∧f 3= .sl rv oa∧f 4= .v (.int .i64 0)) (fun _ _=>0) ⟨rfl,?_⟩ ?_
  ·exact nE
  rintro f s5 ⟨rfl,f0,f3,f4⟩
  have hb3:=ha.sub _ _ hb
  have z0:(([]:List AV).length:Int)=0:=rfl
  refine sr (c6 @f0 @f3 @f4 (Hp.aV hb3) @m1 @z0) ?_
  exact⟨_,Hp.aH,ha.sub,rv,oa,rfl,hA⟩
 |succ h ih=>
  rintro t a s ⟨b,kv,o,o2,rfl,hb,hA,bI,tk⟩ hn
  obtain⟨ks,rfl⟩:=au.pv t
  rw[au.qq]at hA bI tk
  rw[au.pW]at hn⊢
  have m0: ∀a b:AV,cK false 1 [a,b]=a:=fun _ _=>rfl
  have m1: ∀a b:AV,cK false 1 ([a,b].drop 1)=b:=fun _ _=>rfl
  have hl:=hA.len
  refine cR hm RL (by simp) ?_
  refine sr (c2 (Hp.aV hb) @m0) ?_
  refine ik Hp.aH (by intro e he;cases he) fun oe se he=> ?_
  have ju:=he.sub _ _ hb
  refine sr (c2 (Hp.aV ju) @m0) ?_
  refine Fp he (by intro e he;cases he) (by intro e he;cases he) (by simp) (by simp) fun oa sa ha EM=> ?_
  refine sr @List.nil_append.{0} ?_
  rw[List.nil_append]at ha
  refine fS (fun f s'=> ∃(i:Nat) (rv:List AV) (lo:Own),i≤ks.length∧cn isRow ((ks.take i).flatMap (au.cX h)) rv∧dx s s' 1 rv lo∧f 0= .ptr b 0∧f 3= .sl rv lo∧f 4= .v (.int .i64 i))
   (fun f _=>match f 4 with| .v (.int _ m)=>ks.length - m.toNat| _=>0) ⟨0,[],oa,by omega,trivial,ha,?_⟩ ?_
  ·exact nE
  rintro f s5 ⟨i,rv,lo,hi,hR,hO,f0,f3,f4⟩
  have xp:=hO.sub _ _ hb
  by_cases aW:(i:Int)<kv.length
  ·have hg:ks[i]? =some ks[i]:=List.getElem?_eq_getElem (by omega)
   have ht:ks.take (i+1)=ks.take i++ [ks[i]]:=by rw[List.take_add_one,hg];rfl
   have jt:=au.HZ hg
   generalize ks[i]'(by omega)=c at hg ht jt
   have hlen:((ks.take i).flatMap (au.cX h)).length+(au.cX h c).length≤100000:=by
    rw[jt,List.flatMap_append,List.flatMap_cons,List.length_append,List.length_append]at hn
    omega
   obtain⟨va,ga,oi⟩:=hA.get hg
   have Tm:=dh.mono hO.sub oi
   obtain⟨bc,x,y,rfl,_⟩:=dh.ptr oi
   have ec:(AV.ptr bc 0).cells= [.ptr bc 0]:=rfl
   have i1:kQ 1 (.sl kv o) (.v (.int .i64 (i:Int)))=some (.eJ [.ptr bc 0]):=by rw[mN (by omega),Int.toNat_natCast,ga];exact qR rfl
   have ml:k9 false 1 s5 (.eJ [.ptr bc 0])=some (.ptr bc 0):=rfl
   refine sr (c8 @f0 @f3 @f4 (Hp.aV xp) @m1 @aW @i1 @ml) ?_
   refine bC (ih c (.ptr bc 0) s5 Tm (by omega)) ?_
   rintro _ s6 ⟨h6,uI,o6,rfl,EN⟩
   have Uu:=hR.len
   have apd:=EN.len
   refine sr (c3 @f0 @f3 @f4) ?_
   refine mc (hO.mono h6) (hR.cells fun _ _=>isRow.cells) (EN.cells fun _ _=>isRow.cells) (by omega) (by omega) fun ob sb hb=> ?_
   refine sr (c3 @f0 @f3 @f4) ?_
   refine⟨⟨i+1,_,ob,by omega,?_,hb,by simp⟩,by omega⟩
   rw[ht,List.flatMap_append,List.flatMap_cons,List.flatMap_nil,List.append_nil]
   exact hR.append EN
  ·obtain rfl:i=ks.length:=by omega
   rw[List.take_length]at hR
   refine sr (c6 @f0 @f3 @f4 (Hp.aV xp) @m1 @aW) ?_
   exact⟨_,Hp.aH,hO.sub,rv,lo,rfl,hR⟩
theorem Wk (s:Hp):AC Tryz.prog 13 [.v (.pointer none)] s fun r s'=>s'=s∧r= .sl [] .nil:=by
 refine cR hm RL (by simp) ?_
 refine dD ?_
 exact⟨_,Hp.aH,rfl⟩
theorem a7h (h:Nat) (t:au.T h) (a:AV) (s:Hp) (hT:dh s h t a) (hn:(au.cX h t).length≤100000) (bI:au.cX h t≠ []):
  AC Tryz.prog 109 [a] s fun r s'=>s.sub s'∧ ∃o,r= .sl (bA (au.iW h t)) o:=by
 refine cR hm a9q (by simp) ?_
 refine dD ?_
 refine bC (MZ h t a s hT hn) ?_
 rintro _ s1 ⟨h1,rv,o,rfl,hR⟩
 cases hq:au.cX h t with
 |nil=>exact absurd hq bI
 |cons k r=>
  have hk:au.iW h t=k:=by unfold au.iW;rw[hq];rfl
  rw[hk]
  rw[hq]at hR
  obtain⟨va,ga,o3,rfl⟩:=hR.get (i:=0) rfl
  have i1:kQ 1 (.sl rv o) (.v (.int .i64 0))=some (.eJ [.sl (bA k) o3]):=by rw[mN (by omega)];rw[show(0:Int).toNat=0 from rfl,ga];exact qR rfl
  have ml:k9 false 1 s1 (.eJ [.sl (bA k) o3])=some (.sl (bA k) o3):=rfl
  refine sr (c2 @i1 @ml) ?_
  exact⟨_,Hp.aH,h1,o3,rfl⟩
theorem QV (l:List (List Int)) (lv:List AV) (o op:Own) (p:List Int) (s:Hp) (hA:cn isRow l lv) (hn:l.length≤100000) (hr: ∀r∈l,r.length≤1000):
  AC Tryz.prog 40 [.sl lv o,.sl (bA p) op] s fun r s'=>s'=s∧r= .v (.bool (decide (p∈l))):=by
 refine cR hm acS (by simp) ?_
 have hl:=hA.len
 refine dD ?_
 refine fS (fun f s'=> ∃i:Nat,s'=s∧i≤l.length∧p∉l.take i∧f 0= .sl lv o∧f 1= .sl (bA p) op∧f 5= .v (.int .i64 i))
  (fun f _=>match f 5 with| .v (.int _ m)=>l.length - m.toNat| _=>0) ⟨0,rfl,by omega,by simp,?_⟩ ?_
 ·exact nE
 rintro f s5 ⟨i,rfl,hi,uB,f0,f1,f5⟩
 by_cases aW:(i:Int)<lv.length
 ·have hg:l[i]? =some l[i]:=List.getElem?_eq_getElem (by omega)
  have ht:l.take (i+1)=l.take i++ [l[i]]:=by rw[List.take_add_one,hg];rfl
  have gW:=hr _ (List.getElem_mem (l:=l) (n:=i) (by omega))
  generalize l[i]'(by omega)=x at hg ht gW
  obtain⟨va,ga,o3,rfl⟩:=hA.get hg
  have i1:kQ 1 (.sl lv o) (.v (.int .i64 (i:Int)))=some (.eJ [.sl (bA x) o3]):=by rw[mN (by omega),Int.toNat_natCast,ga];exact qR rfl
  have ml:k9 false 1 s5 (.eJ [.sl (bA x) o3])=some (.sl (bA x) o3):=rfl
  refine sr (c6 @f0 @f1 @f5 @aW @i1 @ml) ?_
  refine bC (MB x p o3 op s5 (by omega)) ?_
  rintro _ s5 ⟨rfl,rfl⟩
  by_cases Jk:x=p
  ·refine sr (c4 @f0 @f1 @f5 @Jk) ?_
   refine⟨_,Hp.aH,rfl,?_⟩
   have:p∈l:=by rw[←Jk];exact List.mem_of_getElem? hg
   simp[this]
  ·refine sr (c4 @f0 @f1 @f5 @Jk) ?_
   refine⟨⟨i+1,by omega,?_,by simp⟩,by omega⟩
   rw[ht,List.mem_append,List.mem_singleton]
   rintro (h|h)
   ·exact uB h
   ·exact Jk h.symm
 ·obtain rfl:i=l.length:=by omega
  rw[List.take_length]at uB
  refine sr (c4 @f0 @f1 @f5 @aW) ?_
  exact⟨_,Hp.aH,by simp[uB]⟩
def rV (lt:List Int→List Int→Bool) (p:List Int):Nat→Nat→List (List Int)→Nat
 | _,at_,[]=>at_
 |i,at_,k::ks=>rV lt p (i+1) (if lt p k=true then at_ else i) ks
theorem YG {lt:List Int→List Int→Bool}{p:List Int}: ∀(ks:List (List Int)) (i at_:Nat),(∀k∈ks,lt p k=true)→rV lt p i at_ ks=at_
 | [],_,_,_=>rfl
 |k::ks,i,at_,h=>by
  rw[rV,if_pos (h k (by simp))];exact YG ks _ _ fun k hk=>h k (by simp[hk])
theorem ZC {lt:List Int→List Int→Bool}{p:List Int}: ∀(ks:List (List Int)) (k0:List Int) (i:Nat),ks.Pairwise (fun a b=>lt p a=true→lt p b=true)→rV lt p (i+1) i ks=i+au.jK lt p (k0::ks)
 | [],k0,i,_=>rfl
 |k::ks,k0,i,h=>by
  have h1:=List.pairwise_cons.1 h
  rw[rV]
  have e:au.jK lt p (k0::k::ks)=if lt p k=true then 0 else au.jK lt p (k::ks)+1:=rfl
  rw[e]
  by_cases hk:lt p k=true
  ·rw[if_pos hk,if_pos hk,YG ks _ _ fun x hx=>h1.1 x hx hk];rfl
  ·rw[if_neg hk,if_neg hk,ZC ks k (i+1) h1.2];omega
theorem a7i {lt:List Int→List Int→Bool}{p:List Int}{ks:List (List Int)} (h:ks.Pairwise (fun a b=>lt p a=true→lt p b=true)):rV lt p 0 0 ks=au.jK lt p ks:=by
 cases ks with
 |nil=>rfl
 |cons k ks=>
  rw[rV,show(if lt p k=true then 0 else 0)=0 by split<;>rfl,ZC ks k 0 (List.pairwise_cons.1 h).2];omega
theorem Xk {lt lt2:List Int→List Int→Bool}{p:List Int}: ∀(ks:List (List Int)) (i at_:Nat),(∀k∈ks,lt p k=lt2 p k)→rV lt p i at_ ks=rV lt2 p i at_ ks
 | [],_,_,_=>rfl
 |k::ks,i,at_,h=>by
  rw[rV,rV,h k (by simp)];exact Xk ks _ _ fun k hk=>h k (by simp[hk])
theorem Y4 {lt:List Int→List Int→Bool}{p k:List Int}: ∀(ks:List (List Int)) (i at_:Nat),rV lt p i at_ (ks++ [k])=if lt p k=true then rV lt p i at_ ks else i+ks.length
 | [],i,at_=>by simp[rV]
 |x::ks,i,at_=>by
  rw[List.cons_append,rV,Y4 ks,rV,List.length_cons];split<;>omega
theorem Y5 {h:Nat} (ks:List (au.T h)) (a:AV) (p:List Int) (op:Own) (s:Hp) (hT:dh s (h+1) (au.node ks) a) (hp:p.length≤1000) (hk: ∀c∈ks,(au.cX h c).length≤100000∧au.cX h c≠ []∧(au.iW h c).length≤1000):
  AC Tryz.prog 74 [a,.sl (bA p) op] s fun r s'=>s.sub s'∧r= .v (.int .i64 (rV tN p 0 0 (ks.map (au.iW h)):Int)):=by
 obtain⟨b,kv,o,o2,rfl,hb,hA,bI,tk⟩:=hT
 rw[au.qq]at hA tk
 have m1: ∀a b:AV,cK false 1 ([a,b].drop 1)=b:=fun _ _=>rfl
 have hl:=hA.len
 refine cR hm adm (by simp) ?_
 refine dD ?_
 refine fS (fun f s'=> ∃i:Nat,s.sub s'∧i≤ks.length∧f 0= .ptr b 0∧f 1= .sl (bA p) op∧f 5= .v (.int .i64 (rV tN p 0 0 ((ks.map (au.iW h)).take i):Int))∧f 6= .v (.int .i64 i))
  (fun f _=>match f 6 with| .v (.int _ m)=>ks.length - m.toNat| _=>0) ⟨0,Hp.aH,by omega,?_⟩ ?_
 ·refine dD ?_
  simp[rV]
 rintro f s5 ⟨i,hs,hi,f0,f1,f5,f6⟩
 have xp:=hs _ _ hb
 by_cases aW:(i:Int)<kv.length
 ·have hg:ks[i]? =some ks[i]:=List.getElem?_eq_getElem (by omega)
  have nS:=hk _ (List.getElem_mem (l:=ks) (n:=i) (by omega))
  generalize ks[i]'(by omega)=c at hg nS
  have ht:(ks.map (au.iW h)).take (i+1)=(ks.map (au.iW h)).take i++ [au.iW h c]:=by rw[List.take_add_one,List.getElem?_map,hg];rfl
  have hw:=Y4 (lt:=tN) (p:=p) (k:=au.iW h c) ((ks.map (au.iW h)).take i) 0 0
  rw[←ht]at hw
  have hil:((ks.map (au.iW h)).take i).length=i:=by rw[List.length_take,List.length_map];omega
  rw[hil]at hw
  obtain⟨va,ga,oi⟩:=hA.get hg
  have Tm:=dh.mono hs oi
  obtain⟨bc,x,y,rfl,_⟩:=dh.ptr oi
  have i1:kQ 1 (.sl kv o) (.v (.int .i64 (i:Int)))=some (.eJ [.ptr bc 0]):=by rw[mN (by omega),Int.toNat_natCast,ga];exact qR rfl
  have ml:k9 false 1 s5 (.eJ [.ptr bc 0])=some (.ptr bc 0):=rfl
  refine sr (c9 @f0 @f1 @f5 @f6 (Hp.aV xp) @m1 @aW @i1 @ml) ?_
  refine bC (a7h h c (.ptr bc 0) s5 Tm nS.1 nS.2.1) ?_
  rintro _ s6 ⟨h6,o6,rfl⟩
  refine sr (c4 @f0 @f1 @f5 @f6) ?_
  refine bC (Xi p (au.iW h c) op o6 s6 hp nS.2.2) ?_
  rintro _ s7 ⟨h7,rfl⟩
  cases hc:tN p (au.iW h c)with
  |true=>
   rw[if_pos hc]at hw
   refine sr (c5 @f0 @f1 @f5 @f6 @Bool.not_true) ?_
   exact⟨⟨i+1,Hp.cy hs (Hp.cy h6 h7),by omega,by rw[hw];simp⟩,by omega⟩
  |false=>
   rw[if_neg (by simp[hc]),Nat.zero_add]at hw
   refine sr (c5 @f0 @f1 @f5 @f6 @Bool.not_false) ?_
   exact⟨⟨i+1,Hp.cy hs (Hp.cy h6 h7),by omega,by rw[hw];simp⟩,by omega⟩
 ·obtain rfl:i=ks.length:=by omega
  rw[List.take_of_length_le (by rw[List.length_map];omega)]at f5
  refine sr (c7 @f0 @f1 @f5 @f6 (Hp.aV xp) @m1 @aW) ?_
  exact⟨_,Hp.aH,hs⟩
theorem Xl {lt lt2:List Int→List Int→Bool}{l:List (List Int)}{p:List Int} (h: ∀x∈l,lt x p=lt2 x p):au.mC lt l p=au.mC lt2 l p:=by
 unfold au.mC
 have gen: ∀l:List (List Int),(∀x∈l,lt x p=lt2 x p)→l.takeWhile (fun x=>lt x p)=l.takeWhile (fun x=>lt2 x p)∧l.dropWhile (fun x=>lt x p)=l.dropWhile (fun x=>lt2 x p):=by
  intro l
  induction l with
  |nil=>intro _;exact⟨rfl,rfl⟩
  |cons a l ih=>
   intro h
   obtain⟨i1,i2⟩:=ih fun x hx=>h x (by simp[hx])
   simp only[List.takeWhile_cons,List.dropWhile_cons,h a (by simp)]
   rw[i1,i2];exact⟨rfl,rfl⟩
 rw[(gen l h).1,(gen l h).2]
structure GT (d h:Nat) (t:au.T h):Prop where
 wf:au.yk h t
 so:au.pw da (au.cX h t)
 ok: ∀x∈au.cX h t,fJ d x
 ln:(au.cX h t).length≤1000
theorem Rf {h:Nat}{c:au.T h} (hc:au.cX h c≠ []):au.iW h c∈au.cX h c:=by
 unfold au.iW
 cases hq:au.cX h c with
 |nil=>exact absurd hq hc
 |cons k r=>simp
structure ael (d:Nat) {h:Nat} (ks:List (au.T h)) (p:List Int):Prop where
 ne:ks≠ []
 two:2≤ks.length∧ks.length≤4
 dU: ∀c∈ks,GT d h c∧au.WF h c∧au.cX h c≠ []∧fJ d (au.iW h c)
 way:rV tN p 0 0 (ks.map (au.iW h))=au.jK da p (ks.map (au.iW h))
 at_: ∃c,ks[au.jK da p (ks.map (au.iW h))]? =some c
theorem GT.kids {d h:Nat} (bq:1≤d) (bg:d≤8) {ks:List (au.T h)} (hG:GT d (h+1) (au.node ks)) {p:List Int} (hp:fJ d p):ael d ks p:=by
 obtain⟨w1,w2,w3,w4⟩:=hG.wf
 rw[au.ma]at w1 w2 w4
 have w4:=w4 (by omega)
 have r9: ∀c∈ks,au.WF h c:=w3
 have hs:=hG.so;have cj:=hG.ok;have oX:=hG.ln
 rw[au.pW]at hs cj oX
 have bI:ks≠ []:=by intro e;subst e;simp at w1
 have IE: ∀c∈ks,GT d h c∧au.WF h c∧au.cX h c≠ []∧fJ d (au.iW h c):=by
  intro c hc
  have hw:=r9 c hc
  have hwi:=au.sO.1 hw
  have bI:au.cX h c≠ []:=au.Rw (by omega) hwi.2.2
  obtain⟨A,B,tj⟩:=List.append_of_mem hc
  rw[tj,List.flatMap_append,List.flatMap_cons]at hs cj oX
  have pM:=(List.pairwise_append.1 (List.pairwise_append.1 hs).2.1).1
  refine⟨⟨au.yk.of hw,pM,fun x hx=>cj x (by simp[hx]),by simp only[List.length_append]at oX;omega⟩,hw,bI,cj _ (by simp[Rf bI])⟩
 refine⟨bI,⟨w4,w2⟩,IE,?_,?_⟩
 ·rw[Xk (lt2:=da) _ _ _ fun k hk=>by
   obtain⟨c,hc,rfl⟩:=List.mem_map.1 hk
   exact QU bq bg hp (IE c hc).2.2.2]
  refine a7i ?_
  rw[List.pairwise_map]
  have h2:=(List.pairwise_flatMap.1 hs).2
  refine List.Pairwise.imp_of_mem (fun {a b} ha hb GF=> ?_) h2
  intro C0
  exact(ry bq bg).trans p _ _ hp (IE a ha).2.2.2 (IE b hb).2.2.2 C0 (GF _ (Rf (IE a ha).2.2.1) _ (Rf (IE b hb).2.2.1))
 ·obtain⟨c,hc,_⟩:=au.MY (ry bq bg) hp (ks:=ks) bI (fun c hc=>by have:=au.sO.1 (r9 c hc);exact⟨by omega,this.2.2⟩) hs cj
  exact⟨c,hc⟩
theorem a4r {d:Nat} (bq:1≤d) (bg:d≤8) (p:List Int) (op:Own) (hp:fJ d p): ∀(h:Nat) (t:au.T h) (a:AV) (s:Hp),dh s h t a→GT d h t→p∉au.cX h t→
  AC Tryz.prog 42 [a,.sl (bA p) op] s fun r s'=>s.sub s'∧ ∃tv o,r= .sl tv o∧cn (dh s' h) (au.nj da p h t) tv:=by
 have m0: ∀a b:AV,cK false 1 [a,b]=a:=fun _ _=>rfl
 have m1: ∀a b:AV,cK false 1 ([a,b].drop 1)=b:=fun _ _=>rfl
 have BY:=hp.len
 intro h
 induction h with
 |zero=>
  rintro t a s ⟨b,rv,o,o2,rfl,hb,hA⟩ hG hn
  obtain⟨l,rfl⟩:=au.rT t
  rw[au.HI]at hA
  obtain⟨w1,w2,_,_⟩:=hG.wf
  have cj:=hG.ok
  rw[au.uX]at w1 w2
  rw[au.vE]at cj
  have z0:(([]:List AV).length:Int)=0:=rfl
  refine cR hm a03 (by simp) ?_
  refine sr (c4 (Hp.aV hb) @m0 @m1 @z0) ?_
  refine bC (Xj l rv o op p s hA (by omega) (fun r hr=>by have:=(cj r hr).len;omega) (by omega)) ?_
  rintro _ s1 ⟨h1,UU,o1,rfl,mg⟩
  rw[Xl (lt2:=da) fun x hx=>QU bq bg (cj x hx) hp]at mg
  refine dD ?_
  refine bC (Qc _ UU o1 s1 mg (by rw[au.DT];omega)) ?_
  rintro _ s2 ⟨h2,tv,o3,rfl,hT⟩
  refine dD ?_
  exact⟨_,Hp.aH,Hp.cy h1 h2,tv,o3,rfl,hT⟩
 |succ h ih=>
  intro t a s hT hG hn
  obtain⟨ks,rfl⟩:=au.pv t
  have hK:=hG.kids bq bg hp
  have Pn:=hT
  obtain⟨b,kv,o,o2,rfl,hb,hA,bI,tk⟩:=hT
  rw[au.qq]at hA bI tk
  have hl:=hA.len
  obtain⟨Gj,Jl⟩:=hK.two
  have pL: ¬(kv.length:Int)=0:=by omega
  refine cR hm a03 (by simp) ?_
  refine sr (c4 (Hp.aV hb) @m0 @m1 @pL) ?_
  refine bC (Y5 ks (.ptr b 0) p op s Pn (by omega) fun c hc=>by
   obtain⟨g1,_,g3,g4⟩:=hK.dU c hc
   have:=g1.ln;have:=g4.len
   exact⟨by omega,g3,by omega⟩) ?_
  rintro _ s1 ⟨h1,rfl⟩
  rw[hK.way]
  obtain⟨c,hc⟩:=hK.at_
  have hQ:au.nj da p (h+1) (au.node ks)=(au.chunks (ks.take (au.jK da p (ks.map (au.iW h)))++au.nj da p h c++ks.drop (au.jK da p (ks.map (au.iW h))+1))).map au.node:=by
   simp only[au.nj,au.qq]
   rw[hc]
  rw[hQ]
  clear hQ
  generalize au.jK da p (ks.map (au.iW h))=i at*
  have hi:=(List.getElem?_eq_some_iff.1 hc).1
  obtain⟨g1,g2,g3,g4⟩:=hK.dU c (List.mem_of_getElem? hc)
  have hpc:p∉au.cX h c:=fun hx=>hn (by rw[au.pW];exact List.mem_flatMap.2 ⟨c,List.mem_of_getElem? hc,hx⟩)
  obtain⟨_,_,j1,j2⟩:=au.K6 (ry bq bg) hp h c g1.wf g1.so g1.ok hpc
  have DG:dS 1 kv:=hA.cells fun _ _=>dh.cells
  have tW:ng 1 (.sl kv o) none (some (.v (.int .i64 (i:Int))))=some (.sl (kv.take i) .any):=by
   have:=HQ (k:=1) (xs:=kv) (o:=o) (kd:= .i64) (b:=(i:Int)) (by omega) (by omega) DG
   simpa using this
  have sl2:ng 1 (.sl kv o) (some (.v (.int .i64 ((i:Int)+1)))) none=some (.sl (kv.drop (i+1)) .any):=by
   have:=zW (k:=1) (xs:=kv) (o:=o) (kd:= .i64) (a:=(i:Int)+1) (by omega) (by omega) DG
   rw[show((i:Int)+1).toNat=i+1 by omega]at this
   exact this
  have tf:=h1 _ _ hb
  have mg:cn (dh s1 h) ks kv:=hA.mono fun _ _=>dh.mono h1
  refine sr (c3 (Hp.aV tf) @m1 @tW) ?_
  have BZ:=mg.take i
  have M8:(kv.take i).length≤4:=by rw[List.length_take];omega
  have hkd:(kv.drop (i+1)).length≤4:=by rw[List.length_drop];omega
  refine Fp (dx.nil Hp.aH) (by intro e he;cases he) (BZ.cells fun _ _=>dh.cells) (by simp only[List.length_nil];omega) (by simp only[List.length_nil];omega) fun oa sa ha UW=> ?_
  rw[List.nil_append]at ha
  have hba:=ha.sub _ _ tf
  obtain⟨va,ga,oi⟩:=mg.get hc
  obtain⟨bc,x,y,rfl,_⟩:=dh.ptr oi
  have i1:kQ 1 (.sl kv o) (.v (.int .i64 (i:Int)))=some (.eJ [.ptr bc 0]):=by rw[mN (by omega),Int.toNat_natCast,ga];exact qR rfl
  have ml:k9 false 1 sa (.eJ [.ptr bc 0])=some (.ptr bc 0):=rfl
  refine sr (c5 (Hp.aV hba) @m1 @i1 @ml @List.nil_append.{0}) ?_
  refine bC (ih c (.ptr bc 0) sa (dh.jq UW oi) g1 hpc) ?_
  rintro _ sb ⟨ju,tv,ot,rfl,zK⟩
  have GS:=zK.len
  refine dD ?_
  have wi:cn (dh sb h) (ks.take i) (kv.take i):=BZ.mono fun _ _=>dh.jq (UW.trans (Hp.rz ju))
  refine Fp (ha.mono ju) (wi.cells fun _ _=>dh.cells) (zK.cells fun _ _=>dh.cells) (by omega) (by omega) fun oc sc wY UX=> ?_
  have GG:=UX _ _ (ju _ _ hba)
  have Jm:cn (dh sc h) (ks.take i++au.nj da p h c) (kv.take i++tv):=(wi.append zK).mono fun _ _=>dh.jq UX
  refine sr (c3 (Hp.aV GG) @m1 @sl2) ?_
  have hD:cn (dh sc h) (ks.drop (i+1)) (kv.drop (i+1)):=(mg.drop (i+1)).mono fun _ _=>dh.jq ((UW.trans (Hp.rz ju)).trans UX)
  refine Fp wY (Jm.cells fun _ _=>dh.cells) (hD.cells fun _ _=>dh.cells) (by simp only[List.length_append]at*;omega) (by simp only[List.length_append]at*;omega) fun od sd IH hCd=> ?_
  have M7:cn (dh sd h) (ks.take i++au.nj da p h c++ks.drop (i+1)) (kv.take i++tv++kv.drop (i+1)):=(Jm.append hD).mono fun _ _=>dh.jq hCd
  refine dD ?_
  refine bC (MC sd _ _ od sd M7 (by simp only[List.length_append,List.length_take,List.length_drop];omega) Hp.aH) ?_
  rintro _ se ⟨he,tv2,oe,rfl,hTe⟩
  refine dD ?_
  exact⟨_,Hp.aH,Hp.cy h1 (Hp.cy IH.sub he),tv2,oe,rfl,hTe⟩
def jL:TO→List (List Int)
 |none=> []
 |some ⟨h,t⟩=>au.cX h t
def GO (d:Nat):TO→Prop
 |none=>True
 |some ⟨h,t⟩=>GT d h t
def zk (t:TO) (p:List Int):TO:=
 match t with
 |none=>some ⟨0,au.leaf [p]⟩
 |some ⟨h,t⟩=>if p∈au.cX h t then some ⟨h,t⟩else NU (au.nj da p h t)
theorem Wl {d:Nat} (bq:1≤d) (bg:d≤8) (p:List Int) (op:Own) (hp:fJ d p) (t:TO) (a:AV) (s:Hp) (hT:qm s t a) (hG:GO d t):
  AC Tryz.prog 18 [a,.sl (bA p) op] s fun r s'=>s.sub s'∧ ∃a' b,r= .dr [a',.v (.bool b)]∧qm s' (zk t p) a':=by
 refine cR hm acx (by simp) ?_
 match t with
 |none=>
  obtain rfl:=hT
  have u0: ∀a b x:AV,putAt [a,b] 0 [x]= [x,b]:=fun _ _ _=>rfl
  have l2: ∀a b:AV,[a,b].length=2:=fun _ _=>rfl
  have e0: ∀cs,(AV.agg cs).cells=cs:=fun _=>rfl
  have er: ∀(z:List AV) (p:Own),(AV.sl z p).cells= [.sl z p]:=fun _ _=>rfl
  refine dD ?_
  refine ik Hp.aH (by simp[dS,AV.cells]) fun oe se he=> ?_
  refine sr (c4 @e0 @u0 @l2 @er) ?_
  refine cP fun x nx=> ?_
  refine sr (c4 @e0 @u0 @l2 @er) ?_
  exact⟨_,Hp.aH,Hp.cy he.sub (Hp.bT Hp.aH nx),_,_,rfl,x,_,oe,.nil,rfl,Hp.bt _ _ _,⟨op,rfl⟩,trivial⟩
 |some ⟨h,t⟩=>
  obtain⟨b,x,y,rfl,hb⟩:=dh.ptr hT
  have fO:GT d h t:=hG
  have oX:=fO.ln
  refine dD ?_
  refine bC (MZ h t (.ptr b 0) s hT (by omega)) ?_
  rintro _ s1 ⟨h1,rv,o,rfl,hR⟩
  refine dD ?_
  refine bC (QV _ rv o op p s1 hR (by omega) fun r hr=>by have:=(fO.ok r hr).len;omega) ?_
  rintro _ s1 ⟨rfl,rfl⟩
  by_cases dP:p∈au.cX h t
  ·refine sr @dP ?_
   refine⟨_,Hp.aH,h1,_,_,rfl,?_⟩
   simp only[zk,if_pos dP]
   exact dh.mono h1 hT
  ·refine sr @dP ?_
   refine bC (a4r bq bg p op hp h t (.ptr b 0) s1 (dh.mono h1 hT) fO dP) ?_
   rintro _ s2 ⟨h2,tv,o2,rfl,zK⟩
   obtain⟨_,_,j1,j2⟩:=au.K6 (ry bq bg) hp h t fO.wf fO.so fO.ok dP
   refine dD ?_
   refine bC (a5R _ tv o2 s2 zK (by omega)) ?_
   rintro r s3 ⟨h3,hT3⟩
   refine dD ?_
   refine⟨_,Hp.aH,Hp.cy h1 (Hp.cy h2 h3),_,_,rfl,?_⟩
   simp only[zk,if_neg dP]
   exact hT3
end Go.Proofs.YtonldhgdjjfahaaGreat
namespace Go.Av
open Go
theorem View.obj {s:Hp}{x b n cap:Nat}{cs pre post:List AV} (hx:s x=some (.cells (pre++ .mb b n cap 1::post))) (hb:s b=some (.cells cs)) (hn:n*1≤cs.length) (M9:x≠b):
  View s (.ptr x 0) ((s.set b (.ro cs)).set x (.cells (pre++ .sl (nN 1 n cs) .any::post))) (.ptr x 0):=fun H w v hh hr=>by
 obtain⟨H',st⟩:=Step.freeze hh hb
 have gW:(s.set b (.ro cs)) x=some (.cells (pre++ .mb b n cap 1::post)):=by rw[Hp.aX _ _ M9];exact hx
 obtain⟨one,vs,T,hw,hR,pZ⟩:=st.holds.ob x _ gW
 refine⟨H',⟨⟨st.holds.ro,fun l o hl=> ?_⟩,st.le,st.os,st.tape,st.output,st.size,fun _ _ _=>rfl,fun b' qg=> ?_,st.Ef,fun b' iX aW lh=> ?_⟩,hr.mono st.le⟩
 ·by_cases e:l=x
  ·subst e
   rw[Hp.bt]at hl
   obtain rfl:=Option.some.inj hl
   refine⟨fun c hc=> ?_,vs,T,hw,⟨by have:=hR.1;simp only[List.length_append,List.length_cons]at this⊢;exact this,fun j u hu=> ?_⟩,pZ⟩
   ·simp only[List.mem_append,List.mem_cons]at hc
    rcases hc with hc|rfl|hc
    ·exact one c (by simp[hc])
    ·rfl
    ·exact one c (by simp[hc])
   ·by_cases hj:j=pre.length
    ·subst hj
     have h3:u= .sl (nN 1 n cs) .any:=by simpa using hu.symm
     subst h3
     exact RV.frozen st.holds (Hp.bt _ _ _) hn (hR.2 pre.length (.mb b n cap 1) (by simp))
    ·refine hR.2 j u ?_
     rw[List.getElem?_append]at hu⊢
     split
     ·rename_i h1;rw[if_pos h1]at hu;exact hu
     ·rename_i h1
      rw[if_neg h1]at hu
      obtain⟨i,hi⟩: ∃i,j - pre.length=i+1:=⟨j - pre.length - 1,by omega⟩
      rw[hi]at hu⊢
      simpa using hu
  ·rw[Hp.aX _ _ e]at hl;exact st.holds.ob l o hl
 ·by_cases e:b'=x
  ·subst e;left;rw[hx];simp
  ·rw[Hp.aX _ _ e]at qg;exact st.me b' qg
 ·have e:b'≠x:=by rintro rfl;rw[hx]at lh;cases lh
  rw[Hp.aX _ _ e];exact st.Az b' iX aW lh
def vP (s s':Hp):Prop:= ∀b x o y o2,s b=some (.cells [.sl x o,.sl y o2])→s' b=some (.cells [.sl x o,.sl y o2])
theorem BP.t {s s':Hp} (h:BP s s'):vP s s':=fun _ _ _ _ _ hb=>h _ _ hb
end Go.Av
namespace Go.Proofs.YtonldhgdjjfahaaGreat
open Go Go.Av
theorem dh.xP {s s':Hp} (hs:vP s s'): ∀ {h:Nat}{t:au.T h}{a:AV},dh s h t a→dh s' h t a
 |0,t,a,⟨b,rv,o,o2,h1,h2,h3⟩=>⟨b,rv,o,o2,h1,hs _ _ _ _ _ h2,h3⟩
 |h+1,t,a,⟨b,kv,o,o2,h1,h2,h3,h4⟩=>⟨b,kv,o,o2,h1,hs _ _ _ _ _ h2,h3.mono fun _ _=>dh.xP hs,h4⟩
theorem a4b {d:Nat} (p:List Int) (op:Own) (t:au.T 0) (a:AV) (s:Hp) (hT:dh s 0 t a) (hG:GT d 0 t) (hd:d≤8):
  AC Tryz.prog 45 [a,.sl (bA p) op] s fun r s'=>s.sub s'∧dh s' 0 (au.ir da p 0 t) r:=by
 obtain⟨b,rv,o,o2,rfl,hb,hA⟩:=hT
 obtain⟨l,rfl⟩:=au.rT t
 rw[au.HI]at hA
 have cj:=hG.ok
 have oX:=hG.ln
 rw[au.vE]at cj oX
 have hl:=hA.len
 have m0: ∀a b:AV,cK false 1 [a,b]=a:=fun _ _=>rfl
 have m1: ∀a b:AV,cK false 1 ([a,b].drop 1)=b:=fun _ _=>rfl
 have u0: ∀a b x:AV,putAt [a,b] 0 [x]= [x,b]:=fun _ _ _=>rfl
 have l2: ∀a b:AV,[a,b].length=2:=fun _ _=>rfl
 have e0: ∀cs,(AV.agg cs).cells=cs:=fun _=>rfl
 have hQ:au.ir da p 0 (au.leaf l)=au.leaf (l.filter fun x=>decide (x≠p)):=rfl
 rw[hQ]
 refine AC.view (R:=fun r s'=> ∃x a' tU,r= .ptr x 0∧s x=none∧MO (s.set x (.cells [a',.sl [] .nil])) s' 1 (flat tU) a'∧cn isRow (l.filter fun x=>decide (x≠p)) tU) ?_ ?_
 ·have z0:(([]:List AV).length:Int)=0:=rfl
  refine cR hm a04 (by simp) ?_
  refine sr (c5 (Hp.aV hb) @m0 @m1 @z0 @e0) ?_
  refine cP fun x nx=> ?_
  have Ma:b≠x:=by rintro rfl;rw[hb]at nx;cases nx
  refine sr @e0 ?_
  refine fS (fun f s'=> ∃(i:Nat) (a':AV) (tU:List AV),i≤l.length∧MO (s.set x (.cells [a',.sl [] .nil])) s' 1 (flat tU) a'∧cn isRow ((l.take i).filter fun x=>decide (x≠p)) tU∧f 0= .ptr b 0∧f 1= .sl (bA p) op∧f 5= .ptr x 0∧f 6= .v (.int .i64 i))
   (fun f _=>match f 6 with| .v (.int _ m)=>l.length - m.toNat| _=>0) ⟨0,.sl [] .nil,[],by omega,MO.nil Hp.aH,trivial,?_⟩ ?_
  ·exact nE
  rintro f s5 ⟨i,a',tU,hi,hM,hR,f0,f1,f5,f6⟩
  have xp:s5 b=some (.cells [.sl rv o,.sl [] o2]):=hM.1 _ _ (by rw[Hp.aX _ _ Ma];exact hb)
  have hx5:s5 x=some (.cells [a',.sl [] .nil]):=hM.1 _ _ (Hp.bt _ _ _)
  have Uu:=hR.len
  have ke:((l.take i).filter fun x=>decide (x≠p)).length≤1000:=by
   have h1:=List.length_filter_le (fun x=>decide (x≠p)) (l.take i)
   rw[List.length_take]at h1;omega
  by_cases aW:(i:Int)<rv.length
  ·have hg:l[i]? =some l[i]:=List.getElem?_eq_getElem (by omega)
   have ht:l.take (i+1)=l.take i++ [l[i]]:=by rw[List.take_add_one,hg];rfl
   have gW:=cj _ (List.getElem_mem (l:=l) (n:=i) (by omega))
   generalize l[i]'(by omega)=y at hg ht gW
   have hyl:=gW.len
   obtain⟨va,ga,o3,rfl⟩:=hA.get hg
   have i1:kQ 1 (.sl rv o) (.v (.int .i64 (i:Int)))=some (.eJ [.sl (bA y) o3]):=by rw[mN (by omega),Int.toNat_natCast,ga];exact qR rfl
   have ml: ∀s',k9 false 1 s' (.eJ [.sl (bA y) o3])=some (.sl (bA y) o3):=fun _=>rfl
   refine sr (c9 @f0 @f1 @f5 @f6 (Hp.aV xp) @m0 @aW @i1 @ml) ?_
   refine bC (MB y p o3 op s5 (by omega)) ?_
   rintro _ s5 ⟨rfl,rfl⟩
   by_cases hyp:y=p
   ·refine sr (c6 @f0 @f1 @f5 @f6 @hyp @Bool.not_true) ?_
    refine⟨⟨i+1,a',tU,by omega,hM,?_,by simp⟩,by omega⟩
    rw[ht,List.filter_append,List.filter_cons_of_neg (by simp[hyp]),List.filter_nil,List.append_nil];exact hR
   ·refine sr (kg @f0 @f1 @f5 @f6 @hyp @Bool.not_false (Hp.aV xp) (Hp.aV hx5) @m0 @i1 @ml) ?_
    have hb9:(flat tU).length≤1000:=by rw[vB hR];omega
    have th:(flat [AV.sl (bA y) o3]).length=1:=rfl
    refine DV (by simp[dS,AV.cells]) (by simp) fun g hg9=> ?_
    have AM:=MO.mono hM (Hp.bT (o:= .cells (flat [AV.sl (bA y) o3])) Hp.aH hg9)
    refine sr (c4 @f0 @f1 @f5 @f6) ?_
    refine lX AM (by omega) (I5 rfl) rfl (by rw[th];omega) (by rw[th];omega) fun a2 s9 qW=> ?_
    have hx9:s9 x=some (.cells [a',.sl [] .nil]):=qW.1 _ _ (Hp.bt _ _ _)
    have ea2:a2.cells= [a2]:=DZ qW
    have uH:=BD (ob:= .cells [a2,.sl [] .nil]) qW (Hp.bt s x (.cells [a',.sl [] .nil]))
    rw[Hp.set_set]at uH
    have ef:flat tU++flat [AV.sl (bA y) o3]=flat (tU++ [AV.sl (bA y) o3]):=by simp[flat]
    rw[ef]at uH
    refine sr (c8 @f0 @f1 @f5 @f6 (Hp.dG hx9) @ea2 @u0 @l2) ?_
    refine⟨⟨i+1,a2,_,by omega,uH,?_,by simp⟩,by omega⟩
    rw[ht,List.filter_append,List.filter_cons_of_pos (by simp[hyp]),List.filter_nil];exact hR.snoc ⟨o3,rfl⟩
  ·obtain rfl:i=l.length:=by omega
   rw[List.take_length]at hR
   refine sr (c7 @f0 @f1 @f5 @f6 (Hp.aV xp) @m0 @aW) ?_
   exact⟨_,Hp.aH,x,a',tU,rfl,nx,hM,hR⟩
 ·rintro r s' ⟨x,a',tU,rfl,nx,hM,hR⟩
  have hx:s' x=some (.cells [a',.sl [] .nil]):=hM.1 _ _ (Hp.bt _ _ _)
  have dm:s.sub s':=fun y o hy=>hM.1 _ _ (by rw[Hp.aX _ _ (by rintro rfl;rw[nx]at hy;cases hy)];exact hy)
  have hMM:=hM.2
  rw[vB hR]at hMM
  rcases hMM with ⟨h0,h1⟩|⟨bb,n,cap,cs,rfl,q2,q3,q4,q5,q6,q7,q8⟩
  ·subst h0
   refine⟨_,s',View.refl,dm,?_⟩
   rcases h1 with rfl|rfl
   ·exact⟨x,[],.nil,.nil,rfl,hx,hR⟩
   ·exact⟨x,[],.zero,.nil,rfl,hx,hR⟩
  ·have M9:x≠bb:=by rintro rfl;rw[Hp.bt]at q2;cases q2
   refine⟨_,_,View.obj (pre:= []) (post:= [.sl [] .nil]) hx q3 (by rw[q4];omega) M9,?_,?_⟩
   ·intro y o hy
    have y1:y≠x:=by rintro rfl;rw[nx]at hy;cases hy
    have y2:y≠bb:=by rintro rfl;rw[Hp.aX _ _ y1,hy]at q2;cases q2
    rw[Hp.aX _ _ y1,Hp.aX _ _ y2];exact dm _ _ hy
   ·refine⟨x,_,.any,.nil,rfl,Hp.bt _ _ _,?_⟩
    rw[JM,show cs.take n=tU by rw[←q5,Nat.mul_one]];exact hR
theorem vz {s:Hp}{h:Nat}: ∀ {ks:List (au.T h)}{kv:List AV},cn (dh s h) ks kv→flat kv=kv
 | [],[],_=>rfl
 | _:: _,a::kv,hA=>by
  obtain⟨b,x,y,rfl,_⟩:=dh.ptr hA.1
  have:=vz hA.2
  simp only[flat,List.flatMap_cons]at this⊢
  rw[this];rfl
theorem dh.shape {s:Hp}{h:Nat}{t:au.T h}{a:AV} (ht:dh s h t a): ∃b x o y o2,a= .ptr b 0∧s b=some (.cells [.sl x o,.sl y o2])∧x.length+y.length=au.len t∧(h=0→y= [])∧(h≠0→x= []∧y≠ []):=by
 cases h with
 |zero=>
  obtain⟨b,rv,o,o2,rfl,h2,h3⟩:=ht
  exact⟨b,rv,o,[],o2,rfl,h2,by rw[h3.len];rfl,fun _=>rfl,fun h=>absurd rfl h⟩
 |succ h=>
  obtain⟨b,kv,o,o2,rfl,h2,h3,h4,_⟩:=ht
  refine⟨b,[],o2,kv,o,rfl,h2,by rw[h3.len];simp[au.len],fun h=>(by cases h),fun _=>⟨rfl,?_⟩⟩
  rintro rfl
  exact h4 (cn.a1c h3)
theorem Xm {s:Hp}{h n:Nat}{ks:List (au.T h)}{kv cs:List AV} (hA:cn (dh s h) ks kv) (bI:kv≠ []) (ht:cs.take n=kv): ∀x o y o2,cs≠ [.sl x o,.sl y o2]:=by
 rintro x o y o2 rfl
 cases kv with
 |nil=>exact bI rfl
 |cons a kv=>
  cases ks with
  |nil=>exact hA.elim
  |cons c ks=>
   obtain⟨b,_,_,rfl,_⟩:=dh.ptr hA.1
   cases n with
   |zero=>cases ht
   |succ n=>rw[List.take_succ_cons]at ht;cases ht
theorem Sw {s:Hp}{h i:Nat}{ks:List (au.T h)}{kv:List AV}{c:au.T h}{o:Own} (hA:cn (dh s h) ks kv) (hc:ks[i]? =some c): ∃b,kv[i]? =some (.ptr b 0)∧dh s h c (.ptr b 0)∧kQ 1 (.sl kv o) (.v (.int .i64 (i:Int)))=some (.eJ [.ptr b 0]):=by
 obtain⟨va,ga,oi⟩:=hA.get hc
 obtain⟨b,x,y,rfl,_⟩:=dh.ptr oi
 exact⟨b,ga,oi,by rw[mN (by omega),Int.toNat_natCast,ga];exact qR rfl⟩
theorem MO.a0H {s0 s s1:Hp}{h:Nat}{ks:List (au.T h)}{kv:List AV}{a:AV} (hM:MO s0 s 1 kv a) (hA:cn (dh s1 h) ks kv): ∃sV,View s a sV (.sl kv .any)∧s0.sub sV:=by
 obtain⟨n,sV,e1,e2,e3⟩:=View.mo hM
 rw[JM,List.take_of_length_le (by omega)]at e3
 exact⟨sV,e3,e2⟩
set_option maxHeartbeats 1000000 in
theorem a4s {d:Nat} (bq:1≤d) (bg:d≤8) (p:List Int) (op:Own) (hp:fJ d p): ∀(h:Nat) (t:au.T h) (a:AV) (s:Hp),dh s h t a→GT d h t→
  AC Tryz.prog 45 [a,.sl (bA p) op] s fun r s'=>s.sub s'∧dh s' h (au.ir da p h t) r:=by
 have m0: ∀a b:AV,cK false 1 [a,b]=a:=fun _ _=>rfl
 have m1: ∀a b:AV,cK false 1 ([a,b].drop 1)=b:=fun _ _=>rfl
 have u1: ∀a b x:AV,putAt [a,b] 1 [x]= [a,x]:=fun _ _ _=>rfl
 have l2: ∀a b:AV,[a,b].length=2:=fun _ _=>rfl
 have e0: ∀cs,(AV.agg cs).cells=cs:=fun _=>rfl
 have mp: ∀(s':Hp) (b:Nat),k9 false 1 s' (.eJ [.ptr b 0])=some (.ptr b 0):=fun _ _=>rfl
 have BY:=hp.len
 intro h
 induction h with
 |zero=>intro t a s hT hG;exact a4b p op t a s hT hG bg
 |succ h ih=>
 intro t a s hT hG
 obtain⟨ks,rfl⟩:=au.pv t
 have hK:=hG.kids bq bg hp
 have Pn:=hT
 obtain⟨b,kv,o,o2,rfl,hb,hA,bI,tk⟩:=hT
 rw[au.qq]at hA bI tk
 have hl:=hA.len
 obtain⟨Gj,Jl⟩:=hK.two
 have pL: ¬(kv.length:Int)=0:=by omega
 obtain⟨c,hc⟩:=hK.at_
 have hQ:au.ir da p (h+1) (au.node ks)=au.node (au.Ed ks (au.jK da p (ks.map (au.iW h))) (au.ir da p h c)):=by
  simp only[au.ir,au.qq]
  rw[hc]
 obtain⟨_,_,Jn,rl4⟩:=au.I0 (ry bq bg) hp (h+1) (au.node ks) hG.wf hG.so hG.ok
 rw[hQ,au.ma,au.ma]at Jn
 rw[hQ,au.ma]at rl4
 rw[hQ]
 clear hQ
 have aiz:=hK.way
 generalize au.jK da p (ks.map (au.iW h))=i at*
 have hi:=(List.getElem?_eq_some_iff.1 hc).1
 obtain⟨g1,g2,g3,g4⟩:=hK.dU c (List.mem_of_getElem? hc)
 obtain⟨_,_,xl1,xl4⟩:=au.I0 (ry bq bg) hp h c g1.wf g1.so g1.ok
 have im:=(au.sO.1 g2).1
 obtain⟨Q,hQ⟩: ∃Q,Q=au.Ed ks i (au.ir da p h c):=⟨_,rfl⟩
 rw[←hQ]at Jn rl4⊢
 rw[au.Ed]at hQ
 refine AC.view (R:=fun r s'=> ∃x bb n cap cs zD,r= .ptr x 0∧s x=none∧s bb=none∧x≠bb∧s' x=some (.cells [.sl [] .nil,.mb bb n cap 1])∧s' bb=some (.cells cs)∧n≤cs.length∧cs.take n=zD∧cn (dh s' h) Q zD∧s.sub s') ?_ ?_
 rotate_left
 ·rintro r s' ⟨x,bb,n,cap,cs,zD,rfl,nx,nb,M9,hx,wZ,hn,ht,xw,dm⟩
  have Eh:zD≠ []:=by
   rintro rfl
   have:=cn.a1c xw
   rw[this]at Jn;simp at Jn;omega
  refine⟨_,_,View.obj (pre:= [.sl [] .nil]) (post:= []) hx wZ (by omega) M9,?_,?_⟩
  ·intro y oy hy
   have y1:y≠x:=by rintro rfl;rw[nx]at hy;cases hy
   have y2:y≠bb:=by rintro rfl;rw[nb]at hy;cases hy
   rw[Hp.aX _ _ y1,Hp.aX _ _ y2];exact dm _ _ hy
  ·refine⟨x,_,.any,.nil,rfl,Hp.bt _ _ _,?_,?_,by rw[au.qq];omega⟩
   ·rw[au.qq,JM,ht]
    refine xw.mono fun _ _=>dh.xP fun q xx ox yy oy hq=> ?_
    have q1:q≠x:=by rintro rfl;rw[hx]at hq;simp at hq
    have q2:q≠bb:=by
     rintro rfl
     rw[wZ]at hq
     exact Xm xw Eh ht _ _ _ _ (Ob.cells.inj (Option.some.inj hq))
    rw[Hp.aX _ _ q1,Hp.aX _ _ q2];exact hq
   ·rw[au.qq];intro e;rw[e]at Jn;simp at Jn;omega
 refine cR hm a04 (by simp) ?_
 refine sw (c4 (Hp.aV hb) @m0 @m1 @pL) ?_
 refine bC (Y5 ks (.ptr b 0) p op s Pn (by omega) fun c hc=>by
  obtain⟨g1,_,g3,g4⟩:=hK.dU c hc
  have:=g1.ln;have:=g4.len
  exact⟨by omega,g3,by omega⟩) ?_
 rintro _ s1 ⟨h1,rfl⟩
 rw[aiz]
 have tf:=h1 _ _ hb
 have mg:cn (dh s1 h) ks kv:=hA.mono fun _ _=>dh.mono h1
 have Dy:=vz mg
 have DG:dS 1 kv:=mg.cells fun _ _=>dh.cells
 have sk: ∀s',hU s' 1 (.sl kv o)=some (kv.length,kv):=fun s'=>by
  have:kv.all (fun e=>decide (e.cells.length=1))=true:=List.all_eq_true.2 fun e he=>decide_eq_true (DG e he)
  simp only[hU,this,if_true,Dy]
 refine sw (c3 @HR (Hp.aV tf) @m1) ?_
 refine lX (MO.zero Hp.aH) (by omega) (sk s1) (by omega) (by simp only[List.length_nil];omega) (by simp only[List.length_nil];omega) fun al s2 Po=> ?_
 rw[List.nil_append]at Po
 obtain⟨bl,n,cap,Dr,rfl,y2,y3,y4,y5,y6,y7,y8⟩:=MO.mb Po (by intro e;rw[e]at hl;simp at hl;omega)
 obtain rfl:n=ks.length:=by omega
 have iR:=Po.1
 have ju:=iR _ _ tf
 obtain⟨bc,hgc,Jm,ic⟩:=Sw (o:=o) mg hc
 refine sw (c4 (Hp.aV ju) @m1 @ic @mp) ?_
 refine bC (ih c (.ptr bc 0) s2 (dh.mono iR Jm) g1) ?_
 rintro r s3 ⟨qG,UY⟩
 obtain⟨br,xr,oxr,yr,oyr,rfl,_⟩:=dh.shape UY
 have uH:MO s1 s3 1 (flat kv) (.mb bl ks.length cap 1):=by rw[Dy];exact MO.mono Po qG
 obtain⟨xy,z1,z2,_,qZ⟩:=MO.put (i:=i) (a:= .ptr br 0) uH (by omega) DG hgc rfl
 have ec:(AV.ptr br 0).cells= [.ptr br 0]:=rfl
 rw[ec,Nat.mul_one]at qZ
 have Mb:kQ 1 (.mb bl ks.length cap 1) (.v (.int .i64 (i:Int)))=some (.ptr bl i):=by
  have:=I3 (k:=1) (l:=bl) (len:=ks.length) (cap:=cap) (kd:= .i64) (n:=(i:Int)) (by omega) (by omega)
  simpa using this
 obtain⟨s4,vu⟩: ∃s4:Hp,s4=s3.set bl (.cells (putAt xy i [.ptr br 0])):=⟨_,rfl⟩
 have a1q:xy.take ks.length=kv∧ks.length≤xy.length:=by
  have q:=qG _ _ y3
  rw[z1]at q
  obtain rfl:=Ob.cells.inj (Option.some.inj q)
  rw[Nat.mul_one]at y5 y4;exact⟨y5,by omega⟩
 have ag5:=a1q.2
 have hts:vP s3 s4:=fun q xx ox yy oy hq=>by
  have q2:q≠bl:=by
   rintro rfl
   rw[z1]at hq
   exact Xm mg (by intro e;rw[e]at hl;simp at hl;omega) a1q.1 _ _ _ _ (Ob.cells.inj (Option.some.inj hq))
  rw[vu,Hp.aX _ _ q2];exact hq
 have ur:s1.sub s4:=by rw[vu];exact qZ.1
 rw[←vu]at qZ
 have vq:cn (dh s4 h) (ks.set i (au.ir da p h c)) (kv.set i (.ptr br 0)):=
  cn.set i (mg.mono fun _ _ hx=>dh.mono ur hx) (dh.xP hts UY)
 have L5:=dh.xP hts UY
 obtain⟨br',yq,Ol,yu,Om,e1,wq,hlr,Ev,LJ⟩:=dh.shape L5
 obtain rfl:br=br':=by simpa using e1
 have lp:k9 false 1 s4 (.ptr bl i)=some (.ptr br 0):=by
  have aiA:s4 bl=some (.cells (putAt xy i [.ptr br 0])):=by rw[vu,Hp.bt]
  have hd:(putAt xy i [.ptr br 0]).drop i= .ptr br 0::xy.drop (i+1):=by
   rw[putAt,List.append_assoc,List.drop_left' (by rw[List.length_take];omega)];rfl
  rw[QH,Hp.aV aiA,N9 (by rw[rS _ _ _ (by simp;omega)];omega),hd];rfl
 have s0x: ∀ {x:Nat},s4 x=none→s x=none:=fun hx=>Hp.iJ (Hp.cy h1 ur) hx
 have nbl:s bl=none:=Hp.iJ h1 y2
 refine sw (c7 (Hp.aV ju) @m1 @ic @mp @Mb (Hp.dG z1) @ec) ?_
 rw[←vu]
 have Au:s4 bl=some (.cells (putAt xy i [.ptr br 0])):=by rw[vu,Hp.bt]
 have UZ:Dm false 1 i (some (putAt xy i [.ptr br 0]))=some (.ptr br 0):=by rw[QH,Hp.aV Au]at lp;exact lp
 refine sw (c6 @Mb (Hp.aV Au) @UZ (Hp.aV wq) @m0 @m1) ?_
 have aiB:ks.length≤(putAt xy i [.ptr br 0]).length:=by
  have e:(putAt xy i [.ptr br 0]).length=xy.length:=rS _ _ _ (by show i+1≤ _;omega)
  rw[e];exact ag5
 have G3:(putAt xy i [.ptr br 0]).take ks.length=kv.set i (.ptr br 0):=by
  obtain⟨_,h4⟩:=qZ
  rw[vz vq]at h4
  rcases h4 with ⟨q,_⟩|⟨l',n',eD,iX,q1,q2,q3,q4,q5,_⟩
  ·have:=congrArg List.length q;rw[List.length_set,List.length_nil]at this;omega
  ·simp only[AV.mb.injEq,and_true]at q1
   obtain⟨rfl,rfl,rfl⟩:=q1
   rw[Au]at q3
   obtain rfl:=Ob.cells.inj (Option.some.inj q3)
   rw[Nat.mul_one]at q5;exact q5
 by_cases c2:(1:Int)<(yq.length:Int)+(yu.length:Int)
 ·rw[if_pos (by omega)]at hQ
  subst hQ
  have xz:(AV.mb bl ks.length cap 1).cells= [.mb bl ks.length cap 1]:=rfl
  refine sw (c5 @c2 @e0 @u1 @l2 @xz) ?_
  refine cP fun x nx=> ?_
  have D4:x≠bl:=by rintro rfl;rw[Au]at nx;cases nx
  refine sw (c4 @e0 @u1 @l2 @xz) ?_
  have lG:s4.sub (s4.set x (.cells [.sl [] .nil,.mb bl ks.length cap 1])):=Hp.bT Hp.aH nx
  exact⟨_,Hp.aH,x,bl,ks.length,cap,_,_,rfl,s0x nx,nbl,D4,Hp.bt _ _ _,lG _ _ Au,aiB,G3,vq.mono fun _ _ hx=>dh.mono lG hx,Hp.cy h1 (Hp.cy ur lG)⟩
 rw[if_neg (by omega)]at hQ
 have hcN:au.len (au.ir da p h c)=1:=by omega
 clear hG Pn
 by_cases xm:i=0
 ·subst xm
  simp only[if_true]at hQ
  have z00:((0:Nat):Int)=0:=rfl
  rw[z00]at ic Mb
  have GU:ks[1]? =some ks[1]:=List.getElem?_eq_getElem (by omega)
  have Mc:=hK.dU _ (List.getElem_mem (l:=ks) (n:=1) (by omega))
  rw[GU]at hQ
  simp only at hQ
  generalize ks[1]'(by omega)=oT at GU Mc hQ
  have te:=au.sO.1 Mc.2.1
  obtain⟨bo,V0,V1,io⟩:=Sw (o:=o) mg GU
  have G4:=dh.mono ur V1
  obtain⟨V2,xo,Md,yo,Me,e2,wu,ag6,aiC,aiD⟩:=dh.shape G4
  obtain rfl:bo=V2:=by simpa using e2
  have V3:kQ 1 (.mb bl ks.length cap 1) (.v (.int .i64 1))=some (.ptr bl 1):=by
   have:=I3 (k:=1) (l:=bl) (len:=ks.length) (cap:=cap) (kd:= .i64) (n:=1) (by omega) (by omega)
   simpa using this
  have V4:Dm false 1 1 (some (putAt xy 0 [.ptr br 0]))=some (.ptr bo 0):=by
   have hg:(kv.set 0 (.ptr br 0))[1]? =some (.ptr bo 0):=by rw[List.getElem?_set_ne (by omega)];exact V0
   rw[←G3,List.getElem?_take_of_lt (by omega)]at hg
   have aW:=(List.getElem?_eq_some_iff.1 hg)
   obtain⟨h5,h6⟩:=aW
   rw[N9 (by omega),List.drop_eq_getElem_cons h5,h6];rfl
  have V5:=ur _ _ tf
  have Tn:=dh.mono ur Jm
  obtain⟨V6,xc,oxc,yc,oyc,e3,GG,ag7,To,Tp⟩:=dh.shape Tn
  obtain rfl:bc=V6:=by simpa using e3
  have bx:yq.length≤4∧yu.length≤4∧xo.length≤4∧yo.length≤4:=by omega
  refine sw (Gr @c2 @Int.ofNat_zero @Mb @V3 (Hp.aV Au) @UZ @V4 (Hp.aV wq) (Hp.aV wu) (Hp.aV V5) @m0 @m1 @ic @mp (Hp.aV GG)) ?_
  have aiE:(kv.set 0 (.ptr br 0)).length=ks.length:=by rw[List.length_set];omega
  have key: ∃(J:List (au.T h)),J=au.Ad (au.ir da p h c) oT∧Q=ks.take 0++J++ks.drop (0+2):=⟨_,rfl,hQ⟩
  obtain⟨J,hJ,Bc⟩:=key
  have Mf:ks.take 0=(ks.set 0 (au.ir da p h c)).take 0∧ks.drop (0+2)=(ks.set 0 (au.ir da p h c)).drop (0+2):=by
   refine⟨?_,?_⟩
   ·rw[List.take_set_of_le (by omega)]
   ·rw[List.drop_set_of_lt (by omega)]
  rw[Mf.1,Mf.2]at Bc
  cases h with
  |zero=>
   obtain rfl:yc= []:=To rfl
   have z0:(([]:List AV).length:Int)=0:=rfl
   have tl:cn isRow (au.rows (au.ir da p 0 c)) yq:=by
    obtain⟨q,rq,w1,w2,e9,hq,h9⟩:=L5
    obtain rfl:br=q:=by simpa using e9
    rw[wq]at hq;simp only[Option.some.injEq,Ob.cells.injEq,List.cons.injEq,AV.sl.injEq]at hq
    rw[hq.1.1];exact h9
   have tm:cn isRow (au.rows oT) xo:=by
    obtain⟨q,rq,w1,w2,e9,hq,h9⟩:=G4
    obtain rfl:bo=q:=by simpa using e9
    rw[wu]at hq;simp only[Option.some.injEq,Ob.cells.injEq,List.cons.injEq,AV.sl.injEq]at hq
    rw[hq.1.1];exact h9
   refine sw (c6 @z0 @HR (Hp.aV wq) (Hp.aV wu) @m0 @m1) ?_
   have sA: ∀s',hU s' 1 (.sl yq Ol)=some (yq.length,yq):=fun s'=>by
    have:=(Sr.sl (s:=s') (o:=Ol) (tl.cells fun _ _=>isRow.cells)).src s' Hp.aH
    rw[vB tl]at this;exact this
   have sB: ∀s',hU s' 1 (.sl xo Md)=some (xo.length,xo):=fun s'=>by
    have:=(Sr.sl (s:=s') (o:=Md) (tm.cells fun _ _=>isRow.cells)).src s' Hp.aH
    rw[vB tm]at this;exact this
   refine lX (MO.zero Hp.aH) (by omega) (sA _) (by omega) (by simp only[List.length_nil];omega) (by simp only[List.length_nil];omega) fun a5 s5 h5=> ?_
   rw[List.nil_append]at h5
   have G5:=h5.1 _ _ wq
   have G6:=h5.1 _ _ wu
   refine sw (c4 (Hp.aV G5) (Hp.aV G6) @m0 @m1) ?_
   refine lX h5 (by omega) (sB _) (by omega) (by omega) (by omega) fun a6 s6 h6=> ?_
   have tj:cn isRow (au.rows (au.ir da p 0 c)++au.rows oT) (yq++xo):=tl.append tm
   rw[←vB tj]at h6
   obtain⟨sV,hv,DH⟩:=MO.Su h6 tj
   have Pg:=tl.len
   have Ph:=tm.len
   refine Dp ?_
   refine bC (AC.Ft (pre:= []) hv (Qc _ _ .any sV tj (by rw[List.length_append];omega))) ?_
   rintro _ s7 ⟨GV,tv,ot,rfl,qJ⟩
   rw[show(au.chunks (au.rows (au.ir da p 0 c)++au.rows oT)).map au.leaf=J by rw[hJ];rfl]at qJ
   have qh:s4.sub s7:=Hp.cy DH GV
   have yp:cn (dh s7 0) (ks.set 0 (au.ir da p 0 c)) (kv.set 0 (.ptr br 0)):=vq.mono fun _ _ hx=>dh.mono qh hx
   have su:MO s1 s7 1 (kv.set 0 (.ptr br 0)) (.mb bl ks.length cap 1):=by have:=MO.mono qZ qh;rw[vz vq]at this;exact this
   have G7:=qh _ _ Au
   have w1:iH 1 (.mb bl ks.length cap 1) none (some (.v (.int .i64 0))) none=some (.mb bl 0 cap 1):=by
    have:=xJ (k:=1) (l:=bl) (len:=ks.length) (cap:=cap) (b:=0) (kd:= .i64) (by omega)
    exact this
   obtain⟨n1,GW,vQ,_⟩:=(su.first (i:=0) (by omega)).src
   rw[Nat.mul_one]at vQ
   have Di:((kv.set 0 (.ptr br 0)).take 0).length=0:=by rw[List.length_take];omega
   rw[Nat.mul_one,Di]at GW
   have GX:n1=0:=by omega
   rw[GX]at vQ
   refine sw @w1 ?_
   refine lX (MO.nil Hp.aH) (by omega) vQ (by omega) (by simp only[List.length_nil];omega) (by simp only[List.length_nil];omega) fun b8 s8 h8=> ?_
   rw[List.nil_append]at h8
   have qV:=qJ.len
   have V7:J.length≤4:=by
    have:Q.length=0+J.length+(ks.length -(0+2)):=by rw[Bc,List.length_append,List.length_append,List.length_take,List.length_drop,List.length_set];omega
    omega
   have sT: ∀s',hU s' 1 (.sl tv ot)=some (tv.length,tv):=fun s'=>by
    have:=(Sr.sl (s:=s') (o:=ot) (qJ.cells fun _ _=>dh.cells)).src s' Hp.aH
    rw[vz qJ]at this;exact this
   refine Dp ?_
   refine lX h8 (by omega) (sT _) (by omega) (by omega) (by omega) fun b9 s9 h9=> ?_
   have G8:=h9.1 _ _ G7
   obtain⟨v2,w2,_,tn⟩:=E7 (k:=1) (l:=bl) (len:=ks.length) (cap:=cap) (a:=0+2) (kd:= .i64) (by omega) (by omega)
   have tn:=tn s9 _ (kv.set 0 (.ptr br 0)) G8 (by omega) (by rw[Nat.mul_one];exact G3)
   rw[Nat.mul_one]at tn
   have zC:iH 1 (.mb bl ks.length cap 1) (some (.v (.int .i64 2))) none none=some v2:=w2
   have IY:((kv.set 0 (.ptr br 0)).drop (0+2)).length=ks.length -(0+2):=by rw[List.length_drop];omega
   refine sw @zC ?_
   refine lX h9 (by omega) tn (by omega) (by rw[List.length_append];omega) (by rw[List.length_append];omega) fun Ji nm m6=> ?_
   have Aw:cn (dh nm 0) Q ((kv.set 0 (.ptr br 0)).take 0++tv++(kv.set 0 (.ptr br 0)).drop (0+2)):=by
    rw[Bc]
    exact(((yp.take 0).append qJ).append (yp.drop (0+2))).mono fun _ _ hx=>dh.mono m6.1 hx
   have Be:=Aw.len
   obtain⟨bb,nn,cc,V8,rfl,GY,v3,v4,v5,v6,v7,v8⟩:=MO.mb m6 (by intro e;rw[e]at Be;simp at Be;omega)
   have xz:(AV.mb bb nn cc 1).cells= [.mb bb nn cc 1]:=rfl
   refine sw (c4 @e0 @u1 @l2 @xz) ?_
   refine cP fun x nx=> ?_
   have D4:x≠bb:=by rintro rfl;rw[v3]at nx;cases nx
   refine sw (c4 @e0 @u1 @l2 @xz) ?_
   have lG:nm.sub (nm.set x (.cells [.sl [] .nil,.mb bb nn cc 1])):=Hp.bT Hp.aH nx
   have Ax:s.sub nm:=Hp.cy h1 (Hp.cy ur (Hp.cy qh m6.1))
   have GZ:s bb=none:=Hp.iJ (Hp.cy h1 (Hp.cy ur qh)) GY
   exact⟨_,Hp.aH,x,bb,nn,cc,_,_,rfl,Hp.iJ Ax nx,GZ,D4,Hp.bt _ _ _,lG _ _ v3,by omega,(by rw[Nat.mul_one]at v5;exact v5),Aw.mono fun _ _ hx=>dh.mono lG hx,Hp.cy Ax lG⟩
  |succ h=>
   obtain⟨rfl,V9⟩:=Tp (by omega)
   have zc: ¬(yc.length:Int)=0:=by
    intro e
    exact V9 (List.eq_nil_of_length_eq_zero (by omega))
   have tl:cn (dh s4 h) (au.kids (au.ir da p (h+1) c)) yu:=by
    obtain⟨q,rq,w1,w2,e9,hq,h9,_⟩:=L5
    obtain rfl:br=q:=by simpa using e9
    rw[wq]at hq;simp only[Option.some.injEq,Ob.cells.injEq,List.cons.injEq,AV.sl.injEq,and_true]at hq
    rw[hq.2.1];exact h9
   have tm:cn (dh s4 h) (au.kids oT) yo:=by
    obtain⟨q,rq,w1,w2,e9,hq,h9,_⟩:=G4
    obtain rfl:bo=q:=by simpa using e9
    rw[wu]at hq;simp only[Option.some.injEq,Ob.cells.injEq,List.cons.injEq,AV.sl.injEq,and_true]at hq
    rw[hq.2.1];exact h9
   simp -dsimp -implicitDefEqProofs (disch:=first|omega|assumption|(simp only[rL,Nat.reduceAdd];try omega)) only[go_sem,simprocAttr,-List.reduceReplicate,↓rW,zc,HR,Hp.aV wq,Hp.aV wu,m0,m1]
   have sA: ∀s',hU s' 1 (.sl yu Om)=some (yu.length,yu):=fun s'=>by
    have:=(Sr.sl (s:=s') (o:=Om) (tl.cells fun _ _=>dh.cells)).src s' Hp.aH
    rw[vz tl]at this;exact this
   have sB: ∀s',hU s' 1 (.sl yo Me)=some (yo.length,yo):=fun s'=>by
    have:=(Sr.sl (s:=s') (o:=Me) (tm.cells fun _ _=>dh.cells)).src s' Hp.aH
    rw[vz tm]at this;exact this
   refine lX (MO.zero Hp.aH) (by omega) (sA _) (by omega) (by simp only[List.length_nil];omega) (by simp only[List.length_nil];omega) fun a5 s5 h5=> ?_
   rw[List.nil_append]at h5
   have G5:=h5.1 _ _ wq
   have G6:=h5.1 _ _ wu
   refine sw (c4 (Hp.aV G5) (Hp.aV G6) @m0 @m1) ?_
   refine lX h5 (by omega) (sB _) (by omega) (by omega) (by omega) fun a6 s6 h6=> ?_
   have tj:cn (dh s4 h) (au.kids (au.ir da p (h+1) c)++au.kids oT) (yu++yo):=tl.append tm
   obtain⟨sV,hv,DH⟩:=MO.a0H h6 tj
   have Pg:=tl.len
   have Ph:=tm.len
   refine Dp ?_
   refine bC (AC.Ft (pre:= []) hv (MC s4 _ _ .any sV tj (by rw[List.length_append];omega) DH)) ?_
   rintro _ s7 ⟨GV,tv,ot,rfl,qJ⟩
   rw[show(au.chunks (au.kids (au.ir da p (h+1) c)++au.kids oT)).map au.node=J by rw[hJ];rfl]at qJ
   have qh:s4.sub s7:=Hp.cy DH GV
   have yp:cn (dh s7 (h+1)) (ks.set 0 (au.ir da p (h+1) c)) (kv.set 0 (.ptr br 0)):=vq.mono fun _ _ hx=>dh.mono qh hx
   have su:MO s1 s7 1 (kv.set 0 (.ptr br 0)) (.mb bl ks.length cap 1):=by have:=MO.mono qZ qh;rw[vz vq]at this;exact this
   have G7:=qh _ _ Au
   have w1:iH 1 (.mb bl ks.length cap 1) none (some (.v (.int .i64 0))) none=some (.mb bl 0 cap 1):=by
    have:=xJ (k:=1) (l:=bl) (len:=ks.length) (cap:=cap) (b:=0) (kd:= .i64) (by omega)
    exact this
   obtain⟨n1,GW,vQ,_⟩:=(su.first (i:=0) (by omega)).src
   rw[Nat.mul_one]at vQ
   have Di:((kv.set 0 (.ptr br 0)).take 0).length=0:=by rw[List.length_take];omega
   rw[Nat.mul_one,Di]at GW
   have GX:n1=0:=by omega
   rw[GX]at vQ
   refine sw @w1 ?_
   refine lX (MO.nil Hp.aH) (by omega) vQ (by omega) (by simp only[List.length_nil];omega) (by simp only[List.length_nil];omega) fun b8 s8 h8=> ?_
   rw[List.nil_append]at h8
   have qV:=qJ.len
   have V7:J.length≤4:=by
    have:Q.length=0+J.length+(ks.length -(0+2)):=by rw[Bc,List.length_append,List.length_append,List.length_take,List.length_drop,List.length_set];omega
    omega
   have sT: ∀s',hU s' 1 (.sl tv ot)=some (tv.length,tv):=fun s'=>by
    have:=(Sr.sl (s:=s') (o:=ot) (qJ.cells fun _ _=>dh.cells)).src s' Hp.aH
    rw[vz qJ]at this;exact this
   refine Dp ?_
   refine lX h8 (by omega) (sT _) (by omega) (by omega) (by omega) fun b9 s9 h9=> ?_
   have G8:=h9.1 _ _ G7
   obtain⟨v2,w2,_,tn⟩:=E7 (k:=1) (l:=bl) (len:=ks.length) (cap:=cap) (a:=0+2) (kd:= .i64) (by omega) (by omega)
   have tn:=tn s9 _ (kv.set 0 (.ptr br 0)) G8 (by omega) (by rw[Nat.mul_one];exact G3)
   rw[Nat.mul_one]at tn
   have zC:iH 1 (.mb bl ks.length cap 1) (some (.v (.int .i64 2))) none none=some v2:=w2
   have IY:((kv.set 0 (.ptr br 0)).drop (0+2)).length=ks.length -(0+2):=by rw[List.length_drop];omega
   refine sw @zC ?_
   refine lX h9 (by omega) tn (by omega) (by rw[List.length_append];omega) (by rw[List.length_append];omega) fun Ji nm m6=> ?_
   have Aw:cn (dh nm (h+1)) Q ((kv.set 0 (.ptr br 0)).take 0++tv++(kv.set 0 (.ptr br 0)).drop (0+2)):=by
    rw[Bc]
    exact(((yp.take 0).append qJ).append (yp.drop (0+2))).mono fun _ _ hx=>dh.mono m6.1 hx
   have Be:=Aw.len
   obtain⟨bb,nn,cc,V8,rfl,GY,v3,v4,v5,v6,v7,v8⟩:=MO.mb m6 (by intro e;rw[e]at Be;simp at Be;omega)
   have xz:(AV.mb bb nn cc 1).cells= [.mb bb nn cc 1]:=rfl
   refine sw (c4 @e0 @u1 @l2 @xz) ?_
   refine cP fun x nx=> ?_
   have D4:x≠bb:=by rintro rfl;rw[v3]at nx;cases nx
   refine sw (c4 @e0 @u1 @l2 @xz) ?_
   have lG:nm.sub (nm.set x (.cells [.sl [] .nil,.mb bb nn cc 1])):=Hp.bT Hp.aH nx
   have Ax:s.sub nm:=Hp.cy h1 (Hp.cy ur (Hp.cy qh m6.1))
   have GZ:s bb=none:=Hp.iJ (Hp.cy h1 (Hp.cy ur qh)) GY
   exact⟨_,Hp.aH,x,bb,nn,cc,_,_,rfl,Hp.iJ Ax nx,GZ,D4,Hp.bt _ _ _,lG _ _ v3,by omega,(by rw[Nat.mul_one]at v5;exact v5),Aw.mono fun _ _ hx=>dh.mono lG hx,Hp.cy Ax lG⟩
 ·obtain⟨F,rfl⟩: ∃F,i=F+1:=⟨i - 1,by omega⟩
  have Oh: ¬((F+1:Nat):Int)=0:=by omega
  have eF:((F+1:Nat):Int) - 1=(F:Int):=by omega
  have ei1:(F:Int)+1=((F+1:Nat):Int):=by omega
  simp only[if_neg xm,Nat.add_sub_cancel]at hQ
  have GU:ks[F]? =some ks[F]:=List.getElem?_eq_getElem (by omega)
  have Mc:=hK.dU _ (List.getElem_mem (l:=ks) (n:=F) (by omega))
  rw[GU]at hQ
  simp only at hQ
  generalize ks[F]'(by omega)=oT at GU Mc hQ
  have te:=au.sO.1 Mc.2.1
  obtain⟨bo,V0,V1,io⟩:=Sw (o:=o) mg GU
  have G4:=dh.mono ur V1
  obtain⟨V2,xo,Md,yo,Me,e2,wu,ag6,aiC,aiD⟩:=dh.shape G4
  obtain rfl:bo=V2:=by simpa using e2
  have V3:kQ 1 (.mb bl ks.length cap 1) (.v (.int .i64 (F:Int)))=some (.ptr bl F):=by
   have:=I3 (k:=1) (l:=bl) (len:=ks.length) (cap:=cap) (kd:= .i64) (n:=(F:Int)) (by omega) (by omega)
   simpa using this
  have V4:Dm false 1 F (some (putAt xy (F+1) [.ptr br 0]))=some (.ptr bo 0):=by
   have hg:(kv.set (F+1) (.ptr br 0))[F]? =some (.ptr bo 0):=by rw[List.getElem?_set_ne (by omega)];exact V0
   rw[←G3,List.getElem?_take_of_lt (by omega)]at hg
   have aW:=(List.getElem?_eq_some_iff.1 hg)
   obtain⟨h5,h6⟩:=aW
   rw[N9 (by omega),List.drop_eq_getElem_cons h5,h6];rfl
  have V5:=ur _ _ tf
  have Tn:=dh.mono ur Jm
  obtain⟨V6,xc,oxc,yc,oyc,e3,GG,ag7,To,Tp⟩:=dh.shape Tn
  obtain rfl:bc=V6:=by simpa using e3
  have bx:yq.length≤4∧yu.length≤4∧xo.length≤4∧yo.length≤4:=by omega
  refine sw (Gs @c2 @Oh @eF @ei1 @Mb @V3 (Hp.aV Au) @UZ @V4 (Hp.aV wq) (Hp.aV wu) (Hp.aV V5) @m0 @m1 @ic @mp (Hp.aV GG)) ?_
  have aiE:(kv.set (F+1) (.ptr br 0)).length=ks.length:=by rw[List.length_set];omega
  have key: ∃(J:List (au.T h)),J=au.Ad oT (au.ir da p h c)∧Q=ks.take F++J++ks.drop (F+2):=⟨_,rfl,hQ⟩
  obtain⟨J,hJ,Bc⟩:=key
  have Mf:ks.take F=(ks.set (F+1) (au.ir da p h c)).take F∧ks.drop (F+2)=(ks.set (F+1) (au.ir da p h c)).drop (F+2):=by
   refine⟨?_,?_⟩
   ·rw[List.take_set_of_le (by omega)]
   ·rw[List.drop_set_of_lt (by omega)]
  rw[Mf.1,Mf.2]at Bc
  cases h with
  |zero=>
   obtain rfl:yc= []:=To rfl
   have z0:(([]:List AV).length:Int)=0:=rfl
   have tl:cn isRow (au.rows (au.ir da p 0 c)) yq:=by
    obtain⟨q,rq,w1,w2,e9,hq,h9⟩:=L5
    obtain rfl:br=q:=by simpa using e9
    rw[wq]at hq;simp only[Option.some.injEq,Ob.cells.injEq,List.cons.injEq,AV.sl.injEq]at hq
    rw[hq.1.1];exact h9
   have tm:cn isRow (au.rows oT) xo:=by
    obtain⟨q,rq,w1,w2,e9,hq,h9⟩:=G4
    obtain rfl:bo=q:=by simpa using e9
    rw[wu]at hq;simp only[Option.some.injEq,Ob.cells.injEq,List.cons.injEq,AV.sl.injEq]at hq
    rw[hq.1.1];exact h9
   refine sw (c6 @z0 @HR (Hp.aV wq) (Hp.aV wu) @m0 @m1) ?_
   have sA: ∀s',hU s' 1 (.sl xo Md)=some (xo.length,xo):=fun s'=>by
    have:=(Sr.sl (s:=s') (o:=Md) (tm.cells fun _ _=>isRow.cells)).src s' Hp.aH
    rw[vB tm]at this;exact this
   have sB: ∀s',hU s' 1 (.sl yq Ol)=some (yq.length,yq):=fun s'=>by
    have:=(Sr.sl (s:=s') (o:=Ol) (tl.cells fun _ _=>isRow.cells)).src s' Hp.aH
    rw[vB tl]at this;exact this
   refine lX (MO.zero Hp.aH) (by omega) (sA _) (by omega) (by simp only[List.length_nil];omega) (by simp only[List.length_nil];omega) fun a5 s5 h5=> ?_
   rw[List.nil_append]at h5
   have G5:=h5.1 _ _ wq
   have G6:=h5.1 _ _ wu
   refine sw (c4 (Hp.aV G5) (Hp.aV G6) @m0 @m1) ?_
   refine lX h5 (by omega) (sB _) (by omega) (by omega) (by omega) fun a6 s6 h6=> ?_
   have tj:cn isRow (au.rows oT++au.rows (au.ir da p 0 c)) (xo++yq):=tm.append tl
   rw[←vB tj]at h6
   obtain⟨sV,hv,DH⟩:=MO.Su h6 tj
   have Pg:=tm.len
   have Ph:=tl.len
   refine Dp ?_
   refine bC (AC.Ft (pre:= []) hv (Qc _ _ .any sV tj (by rw[List.length_append];omega))) ?_
   rintro _ s7 ⟨GV,tv,ot,rfl,qJ⟩
   rw[show(au.chunks (au.rows oT++au.rows (au.ir da p 0 c))).map au.leaf=J by rw[hJ];rfl]at qJ
   have qh:s4.sub s7:=Hp.cy DH GV
   have yp:cn (dh s7 0) (ks.set (F+1) (au.ir da p 0 c)) (kv.set (F+1) (.ptr br 0)):=vq.mono fun _ _ hx=>dh.mono qh hx
   have su:MO s1 s7 1 (kv.set (F+1) (.ptr br 0)) (.mb bl ks.length cap 1):=by have:=MO.mono qZ qh;rw[vz vq]at this;exact this
   have G7:=qh _ _ Au
   have w1:iH 1 (.mb bl ks.length cap 1) none (some (.v (.int .i64 (F:Int)))) none=some (.mb bl F cap 1):=by
    have:=xJ (k:=1) (l:=bl) (len:=ks.length) (cap:=cap) (b:=F) (kd:= .i64) (by omega)
    exact this
   obtain⟨n1,GW,vQ,_⟩:=(su.first (i:=F) (by omega)).src
   rw[Nat.mul_one]at vQ
   have Di:((kv.set (F+1) (.ptr br 0)).take F).length=F:=by rw[List.length_take];omega
   rw[Nat.mul_one,Di]at GW
   have GX:n1=F:=by omega
   rw[GX]at vQ
   refine sw @w1 ?_
   refine lX (MO.nil Hp.aH) (by omega) vQ (by omega) (by simp only[List.length_nil];omega) (by simp only[List.length_nil];omega) fun b8 s8 h8=> ?_
   rw[List.nil_append]at h8
   have qV:=qJ.len
   have V7:J.length≤4:=by
    have:Q.length=F+J.length+(ks.length -(F+2)):=by rw[Bc,List.length_append,List.length_append,List.length_take,List.length_drop,List.length_set];omega
    omega
   have sT: ∀s',hU s' 1 (.sl tv ot)=some (tv.length,tv):=fun s'=>by
    have:=(Sr.sl (s:=s') (o:=ot) (qJ.cells fun _ _=>dh.cells)).src s' Hp.aH
    rw[vz qJ]at this;exact this
   refine Dp ?_
   refine lX h8 (by omega) (sT _) (by omega) (by omega) (by omega) fun b9 s9 h9=> ?_
   have G8:=h9.1 _ _ G7
   obtain⟨v2,w2,_,tn⟩:=E7 (k:=1) (l:=bl) (len:=ks.length) (cap:=cap) (a:=F+2) (kd:= .i64) (by omega) (by omega)
   have tn:=tn s9 _ (kv.set (F+1) (.ptr br 0)) G8 (by omega) (by rw[Nat.mul_one];exact G3)
   rw[Nat.mul_one]at tn
   have zC:iH 1 (.mb bl ks.length cap 1) (some (.v (.int .i64 ((F:Int)+2)))) none none=some v2:=by rw[show(F:Int)+2=((F+2:Nat):Int) by omega];exact w2
   have IY:((kv.set (F+1) (.ptr br 0)).drop (F+2)).length=ks.length -(F+2):=by rw[List.length_drop];omega
   refine sw @zC ?_
   refine lX h9 (by omega) tn (by omega) (by rw[List.length_append];omega) (by rw[List.length_append];omega) fun Ji nm m6=> ?_
   have Aw:cn (dh nm 0) Q ((kv.set (F+1) (.ptr br 0)).take F++tv++(kv.set (F+1) (.ptr br 0)).drop (F+2)):=by
    rw[Bc]
    exact(((yp.take F).append qJ).append (yp.drop (F+2))).mono fun _ _ hx=>dh.mono m6.1 hx
   have Be:=Aw.len
   obtain⟨bb,nn,cc,V8,rfl,GY,v3,v4,v5,v6,v7,v8⟩:=MO.mb m6 (by intro e;rw[e]at Be;simp at Be;omega)
   have xz:(AV.mb bb nn cc 1).cells= [.mb bb nn cc 1]:=rfl
   refine sw (c4 @e0 @u1 @l2 @xz) ?_
   refine cP fun x nx=> ?_
   have D4:x≠bb:=by rintro rfl;rw[v3]at nx;cases nx
   refine sw (c4 @e0 @u1 @l2 @xz) ?_
   have lG:nm.sub (nm.set x (.cells [.sl [] .nil,.mb bb nn cc 1])):=Hp.bT Hp.aH nx
   have Ax:s.sub nm:=Hp.cy h1 (Hp.cy ur (Hp.cy qh m6.1))
   have GZ:s bb=none:=Hp.iJ (Hp.cy h1 (Hp.cy ur qh)) GY
   exact⟨_,Hp.aH,x,bb,nn,cc,_,_,rfl,Hp.iJ Ax nx,GZ,D4,Hp.bt _ _ _,lG _ _ v3,by omega,(by rw[Nat.mul_one]at v5;exact v5),Aw.mono fun _ _ hx=>dh.mono lG hx,Hp.cy Ax lG⟩
  |succ h=>
   obtain⟨rfl,V9⟩:=Tp (by omega)
   have zc: ¬(yc.length:Int)=0:=by
    intro e
    exact V9 (List.eq_nil_of_length_eq_zero (by omega))
   have tl:cn (dh s4 h) (au.kids (au.ir da p (h+1) c)) yu:=by
    obtain⟨q,rq,w1,w2,e9,hq,h9,_⟩:=L5
    obtain rfl:br=q:=by simpa using e9
    rw[wq]at hq;simp only[Option.some.injEq,Ob.cells.injEq,List.cons.injEq,AV.sl.injEq,and_true]at hq
    rw[hq.2.1];exact h9
   have tm:cn (dh s4 h) (au.kids oT) yo:=by
    obtain⟨q,rq,w1,w2,e9,hq,h9,_⟩:=G4
    obtain rfl:bo=q:=by simpa using e9
    rw[wu]at hq;simp only[Option.some.injEq,Ob.cells.injEq,List.cons.injEq,AV.sl.injEq,and_true]at hq
    rw[hq.2.1];exact h9
   simp -dsimp -implicitDefEqProofs (disch:=first|omega|assumption|(simp only[rL,Nat.reduceAdd];try omega)) only[go_sem,simprocAttr,-List.reduceReplicate,↓rW,zc,HR,Hp.aV wq,Hp.aV wu,m0,m1]
   have sA: ∀s',hU s' 1 (.sl yo Me)=some (yo.length,yo):=fun s'=>by
    have:=(Sr.sl (s:=s') (o:=Me) (tm.cells fun _ _=>dh.cells)).src s' Hp.aH
    rw[vz tm]at this;exact this
   have sB: ∀s',hU s' 1 (.sl yu Om)=some (yu.length,yu):=fun s'=>by
    have:=(Sr.sl (s:=s') (o:=Om) (tl.cells fun _ _=>dh.cells)).src s' Hp.aH
    rw[vz tl]at this;exact this
   refine lX (MO.zero Hp.aH) (by omega) (sA _) (by omega) (by simp only[List.length_nil];omega) (by simp only[List.length_nil];omega) fun a5 s5 h5=> ?_
   rw[List.nil_append]at h5
   have G5:=h5.1 _ _ wq
   have G6:=h5.1 _ _ wu
   refine sw (c4 (Hp.aV G5) (Hp.aV G6) @m0 @m1) ?_
   refine lX h5 (by omega) (sB _) (by omega) (by omega) (by omega) fun a6 s6 h6=> ?_
   have tj:cn (dh s4 h) (au.kids oT++au.kids (au.ir da p (h+1) c)) (yo++yu):=tm.append tl
   obtain⟨sV,hv,DH⟩:=MO.a0H h6 tj
   have Pg:=tm.len
   have Ph:=tl.len
   refine Dp ?_
   refine bC (AC.Ft (pre:= []) hv (MC s4 _ _ .any sV tj (by rw[List.length_append];omega) DH)) ?_
   rintro _ s7 ⟨GV,tv,ot,rfl,qJ⟩
   rw[show(au.chunks (au.kids oT++au.kids (au.ir da p (h+1) c))).map au.node=J by rw[hJ];rfl]at qJ
   have qh:s4.sub s7:=Hp.cy DH GV
   have yp:cn (dh s7 (h+1)) (ks.set (F+1) (au.ir da p (h+1) c)) (kv.set (F+1) (.ptr br 0)):=vq.mono fun _ _ hx=>dh.mono qh hx
   have su:MO s1 s7 1 (kv.set (F+1) (.ptr br 0)) (.mb bl ks.length cap 1):=by have:=MO.mono qZ qh;rw[vz vq]at this;exact this
   have G7:=qh _ _ Au
   have w1:iH 1 (.mb bl ks.length cap 1) none (some (.v (.int .i64 (F:Int)))) none=some (.mb bl F cap 1):=by
    have:=xJ (k:=1) (l:=bl) (len:=ks.length) (cap:=cap) (b:=F) (kd:= .i64) (by omega)
    exact this
   obtain⟨n1,GW,vQ,_⟩:=(su.first (i:=F) (by omega)).src
   rw[Nat.mul_one]at vQ
   have Di:((kv.set (F+1) (.ptr br 0)).take F).length=F:=by rw[List.length_take];omega
   rw[Nat.mul_one,Di]at GW
   have GX:n1=F:=by omega
   rw[GX]at vQ
   refine sw @w1 ?_
   refine lX (MO.nil Hp.aH) (by omega) vQ (by omega) (by simp only[List.length_nil];omega) (by simp only[List.length_nil];omega) fun b8 s8 h8=> ?_
   rw[List.nil_append]at h8
   have qV:=qJ.len
   have V7:J.length≤4:=by
    have:Q.length=F+J.length+(ks.length -(F+2)):=by rw[Bc,List.length_append,List.length_append,List.length_take,List.length_drop,List.length_set];omega
    omega
   have sT: ∀s',hU s' 1 (.sl tv ot)=some (tv.length,tv):=fun s'=>by
    have:=(Sr.sl (s:=s') (o:=ot) (qJ.cells fun _ _=>dh.cells)).src s' Hp.aH
    rw[vz qJ]at this;exact this
   refine Dp ?_
   refine lX h8 (by omega) (sT _) (by omega) (by omega) (by omega) fun b9 s9 h9=> ?_
   have G8:=h9.1 _ _ G7
   obtain⟨v2,w2,_,tn⟩:=E7 (k:=1) (l:=bl) (len:=ks.length) (cap:=cap) (a:=F+2) (kd:= .i64) (by omega) (by omega)
   have tn:=tn s9 _ (kv.set (F+1) (.ptr br 0)) G8 (by omega) (by rw[Nat.mul_one];exact G3)
   rw[Nat.mul_one]at tn
   have zC:iH 1 (.mb bl ks.length cap 1) (some (.v (.int .i64 ((F:Int)+2)))) none none=some v2:=by rw[show(F:Int)+2=((F+2:Nat):Int) by omega];exact w2
   have IY:((kv.set (F+1) (.ptr br 0)).drop (F+2)).length=ks.length -(F+2):=by rw[List.length_drop];omega
   refine sw @zC ?_
   refine lX h9 (by omega) tn (by omega) (by rw[List.length_append];omega) (by rw[List.length_append];omega) fun Ji nm m6=> ?_
   have Aw:cn (dh nm (h+1)) Q ((kv.set (F+1) (.ptr br 0)).take F++tv++(kv.set (F+1) (.ptr br 0)).drop (F+2)):=by
    rw[Bc]
    exact(((yp.take F).append qJ).append (yp.drop (F+2))).mono fun _ _ hx=>dh.mono m6.1 hx
   have Be:=Aw.len
   obtain⟨bb,nn,cc,V8,rfl,GY,v3,v4,v5,v6,v7,v8⟩:=MO.mb m6 (by intro e;rw[e]at Be;simp at Be;omega)
   have xz:(AV.mb bb nn cc 1).cells= [.mb bb nn cc 1]:=rfl
   refine sw (c4 @e0 @u1 @l2 @xz) ?_
   refine cP fun x nx=> ?_
   have D4:x≠bb:=by rintro rfl;rw[v3]at nx;cases nx
   refine sw (c4 @e0 @u1 @l2 @xz) ?_
   have lG:nm.sub (nm.set x (.cells [.sl [] .nil,.mb bb nn cc 1])):=Hp.bT Hp.aH nx
   have Ax:s.sub nm:=Hp.cy h1 (Hp.cy ur (Hp.cy qh m6.1))
   have GZ:s bb=none:=Hp.iJ (Hp.cy h1 (Hp.cy ur qh)) GY
   exact⟨_,Hp.aH,x,bb,nn,cc,_,_,rfl,Hp.iJ Ax nx,GZ,D4,Hp.bt _ _ _,lG _ _ v3,by omega,(by rw[Nat.mul_one]at v5;exact v5),Aw.mono fun _ _ hx=>dh.mono lG hx,Hp.cy Ax lG⟩
end Go.Proofs.YtonldhgdjjfahaaGreat
