import Derived.WalkKit
import Derived.Deep.MidRow
import Derived.ChangeKeysEq
set_option linter.all false
namespace Go.Av
open Go
inductive Own where
 |any
 |nil
 |zero
 |buf (g cap:Nat)
inductive AV where
 |v (x:Value)
 |ptr (l off:Nat)
 |eJ (cs:List AV)
 |sl (xs:List AV) (o:Own)
 |gK (l off len k:Nat)
 |mb (l n cap k:Nat)
 |agg (cs:List AV)
 |dr (vs:List AV)
 |iface (t:TypeId) (x:AV)
 |eU (f:Nat) (pre cap:List AV)
 |qS (l:Nat)
def AV.cells:AV→List AV
 | .agg cs=>cs
 | .dr _=> []
 |x=> [x]
def AV.one:AV→Bool
 | .agg _=>false
 | .dr _=>false
 | _=>true
def flat (xs:List AV):List AV:=xs.flatMap AV.cells
abbrev PH:=Nat→Nat→Option Value
def Own.ok (o:Own) (b off cap:Nat):Prop:=
 match o with
 | .any=>True
 | .buf g c=>g=b∧off=0∧c=cap
 | _=>False
def Own.xG (o:Own) (a:Option Addr) (cap:Nat):Prop:=
 match o with
 | .any=>True
 | .nil=>a=none
 | .zero=>cap=0
 | .buf _ _=>False
inductive RV (H:PH):Value→AV→Prop
 |v (x:Value) (h:x.oneCell'=true):RV H x (.v x)
 |ptr (l off:Nat):RV H (.pointer (some ⟨l,off,none⟩)) (.ptr l off)
 |eJ (b off:Nat) (fW:Nat→Value) (cs:List AV) (db: ∀c∈cs,c.one=true) (hH: ∀j,j<cs.length→H b (off+j)=some (fW j))
   (hR: ∀j u,cs[j]? =some u→RV H (fW j) u):RV H (.pointer (some ⟨b,off,none⟩)) (.eJ cs)
 |jo (a:Option Addr) (cap:Nat) (o:Own) (ha:a=none→cap=0) (ho:o.xG a cap):RV H (.slice a 0 cap) (.sl [] o)
 |sl (b off len cap k:Nat) (fW:Nat→Value) (xs:List AV) (o:Own) (hk:0<k) (hlen:len=xs.length) (ft:len≤cap) (gr: ∀e∈xs,e.cells.length=k)
   (db: ∀c∈flat xs,c.one=true) (hH: ∀j,j<len*k→H b (off+j)=some (fW j)) (hR: ∀j u,(flat xs)[j]? =some u→RV H (fW j) u) (ho:o.ok b off cap):
   RV H (.slice (some ⟨b,off,none⟩) len cap) (.sl xs o)
 |gK (l off len cap k:Nat) (hk:0<k) (ft:len≤cap):RV H (.slice (some ⟨l,off,none⟩) len cap) (.gK l off len k)
 |mb (l n cap k:Nat) (hk:0<k) (ft:n≤cap):RV H (.slice (some ⟨l,0,none⟩) n cap) (.mb l n cap k)
 |agg (vs:Array Value) (cs:List AV) (db: ∀c∈cs,c.one=true) (hl:vs.size=cs.length) (hR: ∀j u,cs[j]? =some u→RV H (vs.getD j undef) u):RV H (.agg vs) (.agg cs)
 |dr (vs:Array Value) (cs:List AV) (hl:vs.size=cs.length) (hR: ∀j u,cs[j]? =some u→RV H (vs.getD j undef) u):RV H (.tuple vs) (.dr cs)
 |iface (t:TypeId) (x:Value) (y:AV) (h:RV H x y):RV H (.iface t x) (.iface t y)
 |eU (f:Nat) (ws vs:Array Value) (ds cs:List AV) (hw:ws.size=ds.length) (hW: ∀j u,ds[j]? =some u→RV H (ws.getD j undef) u) (hl:vs.size=cs.length) (hR: ∀j u,cs[j]? =some u→RV H (vs.getD j undef) u):RV H (.func (.func f) ws vs) (.eU f ds cs)
 |qS (l:Nat):RV H (.map (some l)) (.qS l)
def dJ (H:PH) (vs:Array Value) (cs:List AV):Prop:=vs.size=cs.length∧ ∀j u,cs[j]? =some u→RV H (vs.getD j undef) u
def PH.le (H H':PH):Prop:= ∀b o v,H b o=some v→H' b o=some v
theorem PH.le.refl (H:PH):H.le H:=fun _ _ _ h=>h
theorem PH.le.trans {A B C:PH} (h:A.le B) (k:B.le C):A.le C:=fun b o v hv=>k b o v (h b o v hv)
theorem RV.mono {H H':PH} (hle:H.le H') {x:Value}{a:AV} (h:RV H x a):RV H' x a:=by
 induction h with
 |v x h=>exact .v x h
 |ptr l off=>exact .ptr l off
 |eJ b off fW cs db hH _ ih=>exact .eJ b off fW cs db (fun j hj=>hle _ _ _ (hH j hj)) ih
 |jo a cap o ha ho=>exact .jo a cap o ha ho
 |sl b off len cap k fW xs o hk hlen ft gr db hH _ ho ih=>exact .sl b off len cap k fW xs o hk hlen ft gr db (fun j hj=>hle _ _ _ (hH j hj)) ih ho
 |gK l off len cap k hk ft=>exact .gK l off len cap k hk ft
 |mb l n cap k hk ft=>exact .mb l n cap k hk ft
 |agg vs cs db hl _ ih=>exact .agg vs cs db hl ih
 |dr vs cs hl _ ih=>exact .dr vs cs hl ih
 |iface t x y _ ih=>exact .iface t x y ih
 |eU f ws vs ds cs hw _ hl _ ihW ih=>exact .eU f ws vs ds cs hw ihW hl ih
 |qS l=>exact .qS l
theorem dJ.mono {H H':PH} (hle:H.le H') {vs:Array Value}{cs:List AV} (h:dJ H vs cs):dJ H' vs cs:=⟨h.1,fun j u hu=>(h.2 j u hu).mono hle⟩
theorem RV.zY {H:PH}{x:Value}{a:AV} (h:RV H x a) (ha:a.one=true):x.oneCell'=true:=by
 cases h<;>first|assumption|rfl|(simp[AV.one]at ha)
theorem RV.undef (H:PH):RV H Go.undef (.dr []):= .dr #[] [] rfl (fun j u h=>by simp at h)
theorem RV.cells {H:PH}{x:Value}{a:AV} (h:RV H x a) (hn:0<a.cells.length):dJ H x.cells a.cells∧ ∀c∈a.cells,c.one=true:=by
 have h0:=h
 cases h with
 |agg vs cs db hl hR=>exact⟨⟨hl,hR⟩,db⟩
 |dr vs cs hl hR=>simp[AV.cells]at hn
 |v x hx=>
  refine⟨⟨?_,?_⟩,by intro c hc;simp[AV.cells]at hc;subst hc;rfl⟩
  ·cases x<;>simp_all [Value.cells,AV.cells,Value.oneCell']
  ·intro j u hu
   match j,hu with
   |0,hu=>
    simp[AV.cells]at hu;subst hu
    cases x<;>simp_all [Value.cells,Value.oneCell']
   |j+1,hu=>simp[AV.cells]at hu
 | _=>
  refine⟨⟨rfl,?_⟩,by intro c hc;simp[AV.cells]at hc;subst hc;rfl⟩
  intro j u hu
  match j,hu with
  |0,hu=>simp[AV.cells]at hu;subst hu;exact h0
  |j+1,hu=>simp[AV.cells]at hu
inductive Ob where
 |cells (cs:List AV)
 |ro (cs:List AV)
 |buf (k n cap:Nat)
 |it (t:ByteArray) (pos:Nat)
 |mp (es:List (AV×AV×Nat)) (clock:Nat)
 |mi (m:Option Nat) (since:Nat) (seen:List Nat) (Nf:Nat)
 |tc (T:TypeId) (cs:List AV)
 |sc (cs:List AV)
abbrev Hp:=Nat→Option Ob
def Hp.set (s:Hp) (l:Nat) (o:Ob):Hp:=fun l'=>if l'=l then some o else s l'
def Hp.del (s:Hp) (l:Nat):Hp:=fun l'=>if l'=l then none else s l'
def Hp.emp:Hp:=fun _=>none
def Hp.sub (s t:Hp):Prop:= ∀l o,s l=some o→t l=some o
def Ko (H:PH) (e:MapEntry) (u:AV×AV×Nat):Prop:=RV H e.key u.1∧RV H e.val u.2.1∧e.born=u.2.2
def Bx (H:PH) (es:Array MapEntry) (us:List (AV×AV×Nat)):Prop:=es.size=us.length∧ ∀(j:Nat) (e:MapEntry) (u:AV×AV×Nat),es[j]? =some e→us[j]? =some u→Ko H e u
theorem Bx.mono {H H':PH} (hle:H.le H') {es:Array MapEntry}{us:List (AV×AV×Nat)} (h:Bx H es us):Bx H' es us:=
 ⟨h.1,fun j e u he hu=>⟨(h.2 j e u he hu).1.mono hle,(h.2 j e u he hu).2.1.mono hle,(h.2 j e u he hu).2.2⟩⟩
def Ae (H:PH) (w:World) (l:Nat):Ob→Prop
 | .cells cs=>(∀c∈cs,c.one=true)∧ ∃vs T,w.heap[l]? =some (.cells vs T (0,0))∧dJ H vs cs∧ ∀o,H l o=none
 | .ro cs=>(∀c∈cs,c.one=true)∧ ∃vs T fz,w.heap[l]? =some (.cells vs T fz)∧dJ H vs cs∧ ∀o,o<vs.size→H l o=some (vs.getD o undef)
 | .buf k n cap=>0<k∧n≤cap∧cap≤maxLen∧ ∃vs T,w.heap[l]? =some (.cells vs T (0,0))∧vs.size=cap*k∧ ∀o,n*k≤o→H l o=none
 | .it t pos=>w.heap[l]? =some (.stringIter t pos)
 | .mp us clock=> ∃es,w.heap[l]? =some (.map es clock)∧Bx H es us
 | .mi m since seen Nf=>w.heap[l]? =some (.mapIter m since seen.toArray Nf)
 | .sc cs=>(∀c∈cs,c.one=true)∧ ∃vs T,w.heap[l]? =some (.cells vs T (vs.size,vs.size+1))∧dJ H vs cs∧ ∀o,H l o=none
 | .tc T cs=>(∀c∈cs,c.one=true)∧ ∃vs,w.heap[l]? =some (.cells vs T (0,0))∧dJ H vs cs∧ ∀o,H l o=none
structure dv (H:PH) (s:Hp) (w:World):Prop where
 ro: ∀b o v,H b o=some v→w.cell? ⟨b,o,none⟩=some v
 ob: ∀l o,s l=some o→Ae H w l o
structure Step (H:PH) (s:Hp) (w:World) (H':PH) (s':Hp) (w':World):Prop where
 holds:dv H' s' w'
 le:H.le H'
 os:w'.os=w.os
 tape:w'.tape=w.tape
 output:w'.output=w.output
 size:w.heap.size≤w'.heap.size
 block: ∀b,b<w.heap.size→s b=none→w'.heap[b]? =w.heap[b]?
 me: ∀b,s' b≠none→s b≠none∨w.heap.size≤b
 Ef: ∀b o,H' b o≠none→H b o≠none∨s b≠none∨w.heap.size≤b
 Az: ∀b cs,b<w.heap.size→s b=some (.ro cs)→w'.heap[b]? =w.heap[b]? ∧(s' b=none∨ ∃iX,s' b=some (.ro iX))
theorem Step.refl {H:PH}{s:Hp}{w:World} (h:dv H s w):Step H s w H s w:=
 ⟨h,.refl H,rfl,rfl,rfl,Nat.le_refl _,fun _ _ _=>rfl,fun _ h=> .inl h,fun _ _ h=> .inl h,fun _ _ _ h=>⟨rfl,.inr ⟨_,h⟩⟩⟩
theorem Step.trans {H H1 H2:PH}{s s1 s2:Hp}{w w1 w2:World} (a:Step H s w H1 s1 w1) (b:Step H1 s1 w1 H2 s2 w2):Step H s w H2 s2 w2 where
 holds:=b.holds
 le:=a.le.trans b.le
 os:=b.os.trans a.os
 tape:=b.tape.trans a.tape
 output:=b.output.trans a.output
 size:=Nat.le_trans a.size b.size
 block:=fun k hk hs=>by
  have h1:s1 k=none:=by
   cases h:s1 k with
   |none=>rfl
   |some o=>
     rcases a.me k (by simp[h])with h'|h'
     ·exact absurd hs h'
     ·omega
  rw[b.block k (Nat.lt_of_lt_of_le hk a.size) h1,a.block k hk hs]
 me:=fun k hk=>by
  rcases b.me k hk with h|h
  ·exact a.me k h
  ·exact .inr (Nat.le_trans a.size h)
 Ef:=fun k o hk=>by
  rcases b.Ef k o hk with h|h|h
  ·exact a.Ef k o h
  ·exact .inr (a.me k h)
  ·exact .inr (.inr (Nat.le_trans a.size h))
 Az:=fun k cs hk hs=>by
  obtain⟨h1,h2⟩:=a.Az k cs hk hs
  have lF:=Nat.lt_of_lt_of_le hk a.size
  rcases h2 with h2|⟨iX,h2⟩
  ·refine⟨by rw[b.block k lF h2,h1],.inl ?_⟩
   cases h:s2 k with
   |none=>rfl
   |some o=>
     rcases b.me k (by simp[h])with h'|h'
     ·exact absurd h2 h'
     ·omega
  ·obtain⟨h3,h4⟩:=b.Az k iX lF h2
   exact⟨by rw[h3,h1],h4⟩
theorem dv.lt {H:PH}{s:Hp}{w:World} (h:dv H s w) {b o:Nat}{v:Value} (hv:H b o=some v):b<w.heap.size:=
 World.block_lt_of_cell? w _ (h.ro b o v hv)
theorem dv.xH {H:PH}{s:Hp}{w:World} (h:dv H s w) (o:Nat):H w.heap.size o=none:=by
 cases hv:H w.heap.size o with
 |none=>rfl
 |some v=>have:=h.lt hv;omega
theorem Ae.lt {H:PH}{w:World}{l:Nat}{o:Ob} (h:Ae H w l o):l<w.heap.size:=by
 cases o with
 |cells cs=>obtain⟨_,vs,T,hh,_⟩:=h;exact(Array.getElem?_eq_some_iff.1 hh).1
 |ro cs=>obtain⟨_,vs,T,fz,hh,_⟩:=h;exact(Array.getElem?_eq_some_iff.1 hh).1
 |buf k n cap=>obtain⟨_,_,_,vs,T,hh,_⟩:=h;exact(Array.getElem?_eq_some_iff.1 hh).1
 |it t pos=>exact(Array.getElem?_eq_some_iff.1 h).1
 |mp us clock=>obtain⟨es,hh,_⟩:=h;exact(Array.getElem?_eq_some_iff.1 hh).1
 |mi m since seen Nf=>exact(Array.getElem?_eq_some_iff.1 h).1
 |tc T cs=>obtain⟨_,vs,hh,_⟩:=h;exact(Array.getElem?_eq_some_iff.1 hh).1
 |sc cs=>obtain⟨_,vs,T,hh,_⟩:=h;exact(Array.getElem?_eq_some_iff.1 hh).1
theorem dv.me {H:PH}{s:Hp}{w:World} (h:dv H s w):s w.heap.size=none:=by
 cases hv:s w.heap.size with
 |none=>rfl
 |some v=>have:=(h.ob _ _ hv).lt;omega
theorem Ae.kept {H H':PH}{w w':World}{l:Nat}{o:Ob} (h:Ae H w l o) (hle:H.le H') (hb:w'.heap[l]? =w.heap[l]?) (hn: ∀i,H' l i≠none→H l i≠none):Ae H' w' l o:=by
 have pZ: ∀i,H l i=none→H' l i=none:=fun i hi=>by
  cases h':H' l i with
  |none=>rfl
  |some v=>exact absurd hi (hn i (by simp[h']))
 cases o with
 |cells cs=>
  obtain⟨h0,vs,T,hh,hr,hx⟩:=h
  exact⟨h0,vs,T,by rw[hb];exact hh,hr.mono hle,fun i=>pZ i (hx i)⟩
 |ro cs=>
  obtain⟨h0,vs,T,fz,hh,hr,hx⟩:=h
  exact⟨h0,vs,T,fz,by rw[hb];exact hh,hr.mono hle,fun i hi=>hle _ _ _ (hx i hi)⟩
 |buf k n cap=>
  obtain⟨h0,h1,h2,vs,T,hh,hr,hx⟩:=h
  exact⟨h0,h1,h2,vs,T,by rw[hb];exact hh,hr,fun i hi=>pZ i (hx i hi)⟩
 |it t pos=>exact by show w'.heap[l]? = _;rw[hb];exact h
 |mp us clock=>
  obtain⟨es,hh,he⟩:=h
  exact⟨es,by rw[hb];exact hh,he.mono hle⟩
 |mi m since seen Nf=>exact by show w'.heap[l]? = _;rw[hb];exact h
 |tc T cs=>
  obtain⟨h0,vs,hh,hr,hx⟩:=h
  exact⟨h0,vs,by rw[hb];exact hh,hr.mono hle,fun i=>pZ i (hx i)⟩
 |sc cs=>
  obtain⟨h0,vs,T,hh,hr,hx⟩:=h
  exact⟨h0,vs,T,by rw[hb];exact hh,hr.mono hle,fun i=>pZ i (hx i)⟩
theorem dv.drop {H:PH}{s s':Hp}{w:World} (h:dv H s w) (hs:s'.sub s):dv H s' w:=⟨h.ro,fun l o hl=>h.ob l o (hs l o hl)⟩
theorem Step.drop {H H':PH}{s s' zn:Hp}{w w':World} (h:Step H s w H' s' w') (hs:zn.sub s'):Step H s w H' zn w' where
 holds:=h.holds.drop hs
 le:=h.le
 os:=h.os
 tape:=h.tape
 output:=h.output
 size:=h.size
 block:=h.block
 me:=fun b hb=>h.me b (by
  cases hx:zn b with
  |none=>exact absurd hx hb
  |some o=>simp[hs b o hx])
 Ef:=h.Ef
 Az:=fun b cs hb hx=>by
  obtain⟨h1,h2⟩:=h.Az b cs hb hx
  refine⟨h1,?_⟩
  cases h3:zn b with
  |none=>exact .inl rfl
  |some o=>
   have h4:=hs b o h3
   rcases h2 with h2|⟨iX,h2⟩
   ·rw[h2]at h4;cases h4
   ·rw[h2]at h4;cases h4;exact .inr ⟨_,rfl⟩
theorem dv.drew {H:PH}{s:Hp}{w:World} (h:dv H s w):dv H s w.drew:=⟨h.ro,fun l o hl=>by
 have:=h.ob l o hl
 cases o<;>exact this⟩
theorem Step.drew {H:PH}{s:Hp}{w:World} (h:dv H s w):Step H s w H s w.drew:=
 ⟨h.drew,.refl H,rfl,rfl,rfl,Nat.le_refl _,fun _ _ _=>rfl,fun _ h=> .inl h,fun _ _ h=> .inl h,fun _ _ _ h=>⟨rfl,.inr ⟨_,h⟩⟩⟩
def up (k:AV→Hp→Prop):AV→Hp→Prop:=fun v s=> ∃s2,s2.sub s∧k v s2
def vg (P:Program) (f:FuncId) (args:List AV) (s:Hp) (R Rp:AV→Hp→Prop):Prop:=
 ∀(vs:Array Value) (w:World) (H:PH),dJ H vs args→dv H s w→
  Calls P f vs w fun e w'=>(∃v r H' s',e= .returned v∧Step H s w H' s' w'∧RV H' v r∧R r s')∨
   (∃v r H' s',e= .panicked [{v,recovered:=false}]∧Step H s w H' s' w'∧RV H' v r∧Rp r s')
theorem vg.mono {P:Program}{f:FuncId}{args:List AV}{s:Hp}{R R' Rp Rp':AV→Hp→Prop} (h:vg P f args s R Rp) (hr: ∀r s',R r s'→R' r s') (hp: ∀r s',Rp r s'→Rp' r s'):vg P f args s R' Rp':=
 fun vs w H ha hs=>(h vs w H ha hs).mono fun _ _ hh=>by
  rcases hh with ⟨v,r,H',s',he,dT,hv,hR⟩|⟨v,r,H',s',he,dT,hv,hR⟩
  ·exact .inl ⟨v,r,H',s',he,dT,hv,hr _ _ hR⟩
  ·exact .inr ⟨v,r,H',s',he,dT,hv,hp _ _ hR⟩
def AC (P:Program) (f:FuncId) (args:List AV) (s:Hp) (R:AV→Hp→Prop):Prop:=
 ∀(vs:Array Value) (w:World) (H:PH),dJ H vs args→dv H s w→
  Calls P f vs w fun e w'=> ∃v r H' s',e= .returned v∧Step H s w H' s' w'∧RV H' v r∧R r s'
theorem AC.p {P:Program}{f:FuncId}{args:List AV}{s:Hp}{R Rp:AV→Hp→Prop} (h:AC P f args s R):vg P f args s R Rp:=
 fun vs w H ha hs=>(h vs w H ha hs).mono fun _ _ hh=> .inl hh
theorem vg.np {P:Program}{f:FuncId}{args:List AV}{s:Hp}{R:AV→Hp→Prop} (h:vg P f args s R (up fun _ _=>False)):AC P f args s R:=
 fun vs w H ha hs=>(h vs w H ha hs).mono fun _ _ hh=>by
  rcases hh with hh|⟨v,r,H',s',he,dT,hv,_,_,hR⟩
  ·exact hh
  ·exact hR.elim
theorem AC.mono {P:Program}{f:FuncId}{args:List AV}{s:Hp}{R R':AV→Hp→Prop} (h:AC P f args s R) (hr: ∀r s',R r s'→R' r s'):AC P f args s R':=
 fun vs w H ha hs=>(h vs w H ha hs).mono fun _ _ ⟨v,r,H',s',he,dT,hv,hR⟩=>⟨v,r,H',s',he,dT,hv,hr _ _ hR⟩
def Shift (args:List AV) (s:Hp) (ND:List AV) (s':Hp):Prop:=
 ∀(vs:Array Value) (w:World) (H:PH),dJ H vs args→dv H s w→ ∃H',dJ H' vs ND∧Step H s w H' s' w
theorem AC.pre {P:Program}{f:FuncId}{args ND:List AV}{s s':Hp}{R:AV→Hp→Prop} (h:AC P f ND s' R) (hs:Shift args s ND s'):AC P f args s R:=
 fun vs w H ha hh=>by
  obtain⟨H1,ha1,dT⟩:=hs vs w H ha hh
  exact(h vs w H1 ha1 dT.holds).mono fun _ _ ⟨v,r,H',s',he,Eg,hv,hR⟩=>⟨v,r,H',s',he,dT.trans Eg,hv,hR⟩
def Hp.Il (s t:Hp):Prop:= ∀l,s l=none∨t l=none
def Hp.join (s t:Hp):Hp:=fun l=>(s l).or (t l)
theorem Hp.Cx {s t:Hp}{l:Nat}{o:Ob} (h:s l=some o):(s.join t) l=some o:=by simp[Hp.join,h]
theorem Hp.Fi {s t:Hp}{l:Nat} (h:s l=none):(s.join t) l=t l:=by simp[Hp.join,h]
theorem Step.frame {H H':PH}{s s' t:Hp}{w w':World} (h:Step H s w H' s' w') (hd:s.Il t) (ht:dv H (s.join t) w):
  Step H (s.join t) w H' (s'.join t) w'∧s'.Il t:=by
 have aW: ∀l o,t l=some o→s l=none∧Ae H w l o:=fun l o hl=>by
  have hs:s l=none:=(hd l).resolve_right (by simp[hl])
  exact⟨hs,ht.ob l o (by rw[Hp.Fi hs];exact hl)⟩
 have IH:s'.Il t:=fun l=>by
  cases hl:t l with
  |none=>exact .inr rfl
  |some o=>
   left
   obtain⟨h1,h2⟩:=aW l o hl
   cases hs:s' l with
   |none=>rfl
   |some o'=>
     rcases h.me l (by simp[hs])with h'|h'
     ·exact absurd h1 h'
     ·have:=h2.lt;omega
 refine⟨⟨⟨h.holds.ro,fun l o hl=> ?_⟩,h.le,h.os,h.tape,h.output,h.size,fun b hb hs=> ?_,fun b hb=> ?_,fun b o hb=> ?_,fun b cs hb hs=> ?_⟩,IH⟩
 ·cases hs:s' l with
  |some o'=>rw[Hp.Cx hs]at hl;obtain rfl:=Option.some.inj hl;exact h.holds.ob l o' hs
  |none=>
   rw[Hp.Fi hs]at hl
   obtain⟨h1,h2⟩:=aW l o hl
   refine h2.kept h.le (h.block l h2.lt h1) fun i hi=> ?_
   rcases h.Ef l i hi with h'|h'|h'
   ·exact h'
   ·exact absurd h1 h'
   ·have:=h2.lt;omega
 ·exact h.block b hb (by
   cases hx:s b with
   |none=>rfl
   |some o=>rw[Hp.Cx hx]at hs;cases hs)
 ·cases hs:s' b with
  |some o=>
   rcases h.me b (by simp[hs])with h'|h'
   ·left
    cases hx:s b with
    |none=>exact absurd hx h'
    |some o=>simp[Hp.Cx hx]
   ·exact .inr h'
  |none=>
   rw[Hp.Fi hs]at hb
   left
   cases hx:s b with
   |some o=>simp[Hp.Cx hx]
   |none=>rw[Hp.Fi hx];exact hb
 ·rcases h.Ef b o hb with h'|h'|h'
  ·exact .inl h'
  ·right;left
   cases hx:s b with
   |none=>exact absurd hx h'
   |some o=>simp[Hp.Cx hx]
  ·exact .inr (.inr h')
 ·cases hx:s b with
  |some o=>
   rw[Hp.Cx hx]at hs;obtain rfl:=Option.some.inj hs
   obtain⟨h1,h2⟩:=h.Az b cs hb hx
   refine⟨h1,?_⟩
   rcases h2 with h2|⟨iX,h2⟩
   ·rw[Hp.Fi h2];left;exact(hd b).resolve_left (by simp[hx])
   ·exact .inr ⟨iX,Hp.Cx h2⟩
  |none=>
   rw[Hp.Fi hx]at hs
   refine⟨h.block b hb hx,.inr ⟨cs,?_⟩⟩
   rw[Hp.Fi ((IH b).resolve_right (by simp[hs]))];exact hs
theorem Hp.a43 (s t:Hp):s.sub (s.join t):=fun _ _ h=>Hp.Cx h
theorem vg.frame {P:Program}{f:FuncId}{args:List AV}{s t:Hp}{R k:AV→Hp→Prop} (h:vg P f args s R (up k)) (hd:s.Il t):
  vg P f args (s.join t) (fun r u=> ∃s',R r s'∧s'.Il t∧u=s'.join t) (up k):=
 fun vs w H ha hh=>(h vs w H ha (hh.drop (Hp.a43 s t))).mono fun _ _ hq=>by
  rcases hq with ⟨v,r,H',s',he,dT,hv,hR⟩|⟨v,r,H',s',he,dT,hv,s2,h2,hR⟩
  ·exact .inl ⟨v,r,H',s'.join t,he,(dT.frame hd hh).1,hv,s',hR,(dT.frame hd hh).2,rfl⟩
  ·exact .inr ⟨v,r,H',s'.join t,he,(dT.frame hd hh).1,hv,s2,fun l o hl=>Hp.Cx (h2 l o hl),hR⟩
theorem DS (w:World) (o:Obj) (b:Nat) (h:b≠w.heap.size):(w.alloc o).heap[b]? =w.heap[b]? :=by
 show(w.heap.push o)[b]? = _
 rw[Array.getElem?_push,if_neg h]
theorem Hp.bt (s:Hp) (l:Nat) (o:Ob):(s.set l o) l=some o:=by simp[Hp.set]
theorem Hp.aX (s:Hp) {l l':Nat} (o:Ob) (h:l'≠l):(s.set l o) l'=s l':=by simp[Hp.set,h]
theorem Hp.yK (s:Hp) (l:Nat):(s.del l) l=none:=by simp[Hp.del]
theorem Hp.pY (s:Hp) {l l':Nat} (h:l'≠l):(s.del l) l'=s l':=by simp[Hp.del,h]
def PH.ext (H:PH) (g n:Nat) (vs:Array Value):PH:=fun b o=>if b=g∧o<n then vs[o]? else H b o
theorem PH.Fu (H:PH) (g n:Nat) (vs:Array Value) {o:Nat} (h:o<n):(H.ext g n vs) g o=vs[o]? :=by simp[PH.ext,h]
theorem PH.E0 (H:PH) (g n:Nat) (vs:Array Value) {b o:Nat} (h: ¬(b=g∧o<n)):(H.ext g n vs) b o=H b o:=by simp[PH.ext,h]
theorem Step.write {H:PH}{s:Hp}{w w':World}{fr:Nat×Nat} (h:dv H s w) (g n:Nat) (vs:Array Value) (T:TypeId) (s':Hp)
  (Tu:w'.os=w.os) (PR:w'.tape=w.tape) (CJ:w'.output=w.output) (S5:w.heap.size≤w'.heap.size)
  (hg:w'.heap[g]? =some (.cells vs T fr)) (bI: ∀b,b<w.heap.size→b≠g→w'.heap[b]? =w.heap[b]?)
  (E9:g=w.heap.size∨(s g≠none∧ ∀cs,s g≠some (.ro cs)))
  (hn:n≤vs.size) (hold: ∀o v,H g o=some v→vs[o]? =some v)
  (iK: ∀l o,l≠g→s' l=some o→s l=some o)
  (Gd: ∀o,s' g=some o→Ae (H.ext g n vs) w' g o):Step H s w (H.ext g n vs) s' w':=by
 have hle:H.le (H.ext g n vs):=fun b o v hv=>by
  by_cases hb:b=g∧o<n
  ·obtain⟨rfl,ho⟩:=hb
   rw[PH.Fu _ _ _ _ ho];exact hold o v hv
  ·rw[PH.E0 _ _ _ _ hb];exact hv
 have Eh: ∀b,b≠g→ ∀i,(H.ext g n vs) b i=H b i:=fun b hb i=>PH.E0 _ _ _ _ (fun hh=>hb hh.1)
 refine⟨⟨fun b o v hv=> ?_,fun l o hl=> ?_⟩,hle,Tu,PR,CJ,S5,fun b hb hs=> ?_,fun b hb=> ?_,fun b o hb=> ?_,fun b cs hb hs=> ?_⟩
 ·by_cases hb:b=g
  ·subst hb
   simp only[World.cell?,hg,Option.isSome_none,Bool.false_eq_true,if_false]
   by_cases ho:o<n
   ·rw[PH.Fu _ _ _ _ ho]at hv;exact hv
   ·rw[PH.E0 _ _ _ _ (fun hh=>ho hh.2)]at hv;exact hold o v hv
  ·rw[Eh b hb]at hv
   have:=h.ro b o v hv
   have aW:=h.lt hv
   rw[←this]
   exact World.cell?_of_block (bI b aW hb)
 ·by_cases hb:l=g
  ·subst hb;exact Gd o hl
  ·have h1:=h.ob l o (iK l o hb hl)
   exact h1.kept hle (bI l h1.lt hb) (fun i hi=>by rw[Eh l hb]at hi;exact hi)
 ·refine bI b hb fun tO=> ?_
  subst tO
  rcases E9 with rfl|hf
  ·omega
  ·exact hf.1 hs
 ·by_cases tO:b=g
  ·subst tO
   rcases E9 with rfl|hf
   ·exact .inr (Nat.le_refl _)
   ·exact .inl hf.1
  ·left
   cases hx:s' b with
   |none=>exact absurd hx hb
   |some o=>simp[iK b o tO hx]
 ·by_cases tO:b=g∧o<n
  ·right
   obtain⟨rfl,_⟩:=tO
   rcases E9 with rfl|hf
   ·exact .inr (Nat.le_refl _)
   ·exact .inl hf.1
  ·rw[PH.E0 _ _ _ _ tO]at hb;exact .inl hb
 ·have tO:b≠g:=by
   rintro rfl
   rcases E9 with rfl|hf
   ·omega
   ·exact hf.2 cs hs
  refine⟨bI b hb tO,?_⟩
  cases hx:s' b with
  |none=>exact .inl rfl
  |some o=>
   have:=iK b o tO hx
   rw[hs]at this;cases this;exact .inr ⟨_,rfl⟩
theorem PH.yL (H:PH) (g:Nat) (vs:Array Value):H.ext g 0 vs=H:=by
 funext b o;simp[PH.ext]
theorem Step.new {H:PH}{s:Hp}{w:World} (h:dv H s w) (vs:Array Value) (T:TypeId) (cs:List AV) (db: ∀c∈cs,c.one=true) (hr:dJ H vs cs):
  Step H s w H (s.set w.heap.size (.cells cs)) (w.alloc (.cells vs T)):=by
 have:=Step.write (w':=w.alloc (.cells vs T)) h w.heap.size 0 vs T (s.set w.heap.size (.cells cs)) rfl rfl rfl (by simp) (heap_alloc_new w _) (fun b _ hb=>DS w _ b hb) (.inl rfl)
  (Nat.zero_le _) (fun o v hv=>by rw[h.xH]at hv;cases hv) (fun l o hl hs=>by rw[Hp.aX _ _ hl]at hs;exact hs)
  (fun o ho=>by
   rw[Hp.bt]at ho;obtain rfl:=Option.some.inj ho
   rw[PH.yL]
   exact⟨db,vs,T,heap_alloc_new w _,hr,h.xH⟩)
 rwa[PH.yL]at this
theorem Step.a0M {H:PH}{s:Hp}{w:World} (h:dv H s w) (vs:Array Value) (T:TypeId) (cs:List AV) (db: ∀c∈cs,c.one=true) (hr:dJ H vs cs):
  Step H s w H (s.set w.heap.size (.tc T cs)) (w.alloc (.cells vs T)):=by
 have:=Step.write (w':=w.alloc (.cells vs T)) h w.heap.size 0 vs T (s.set w.heap.size (.tc T cs)) rfl rfl rfl (by simp) (heap_alloc_new w _) (fun b _ hb=>DS w _ b hb) (.inl rfl)
  (Nat.zero_le _) (fun o v hv=>by rw[h.xH]at hv;cases hv) (fun l o hl hs=>by rw[Hp.aX _ _ hl]at hs;exact hs)
  (fun o ho=>by
   rw[Hp.bt]at ho;obtain rfl:=Option.some.inj ho
   rw[PH.yL]
   exact⟨db,vs,heap_alloc_new w _,hr,h.xH⟩)
 rwa[PH.yL]at this
def putAt (cs:List AV) (off:Nat) (xs:List AV):List AV:=cs.take off++xs++cs.drop (off+xs.length)
theorem rS (cs:List AV) (off:Nat) (xs:List AV) (h:off+xs.length≤cs.length):(putAt cs off xs).length=cs.length:=by
 simp[putAt];omega
def jW (vs:Array Value) (off:Nat) (xs:List Value):Array Value:=(vs.toList.take off++xs++vs.toList.drop (off+xs.length)).toArray
theorem dJ.lD {H:PH}{vs:Array Value}{cs:List AV}:dJ H vs cs↔vs.toList.length=cs.length∧ ∀(j:Nat) (x:Value) (u:AV),vs.toList[j]? =some x→cs[j]? =some u→RV H x u:=by
 constructor
 ·rintro ⟨h1,h2⟩
  refine⟨by simpa using h1,fun j x u hx hu=> ?_⟩
  have:=h2 j u hu
  have hj:vs[j]? =some x:=by simpa using hx
  rw[Array.getD_eq_getD_getElem?,hj]at this
  exact this
 ·rintro ⟨h1,h2⟩
  refine⟨by simpa using h1,fun j u hu=> ?_⟩
  have hj:j<cs.length:=(List.getElem?_eq_some_iff.1 hu).1
  have uy:j<vs.size:=by simp at h1;omega
  refine h2 j _ u ?_ hu
  simp[uy]
theorem dJ.putAt {H:PH}{vs:Array Value}{cs xs:List AV}{ys:Array Value} (h:dJ H vs cs) (hx:dJ H ys xs) (off:Nat) (CL:off+xs.length≤cs.length):
  dJ H (jW vs off ys.toList) (putAt cs off xs):=by
 rw[dJ.lD]at h hx⊢
 obtain⟨h1,h2⟩:=h
 obtain⟨h3,h4⟩:=hx
 refine⟨by simp only[jW,Go.Av.putAt,List.length_append,List.length_take,List.length_drop];omega,fun j x u hj hu=> ?_⟩
 simp only[jW,Go.Av.putAt]at hj hu
 by_cases ha:j<off
 ·rw[List.append_assoc,List.getElem?_append_left (by simp only[List.length_take];omega),List.getElem?_take_of_lt ha]at hj
  rw[List.append_assoc,List.getElem?_append_left (by simp only[List.length_take];omega),List.getElem?_take_of_lt ha]at hu
  exact h2 j x u hj hu
 ·by_cases hb:j<off+xs.length
  ·rw[List.append_assoc,List.getElem?_append_right (by simp only[List.length_take];omega),List.getElem?_append_left (by simp only[List.length_take];omega)]at hj
   rw[List.append_assoc,List.getElem?_append_right (by simp only[List.length_take];omega),List.getElem?_append_left (by simp only[List.length_take];omega)]at hu
   rw[show(vs.toList.take off).length=(cs.take off).length by simp only[List.length_take];omega]at hj
   exact h4 _ x u hj hu
  ·rw[List.getElem?_append_right (by simp only[List.length_append,List.length_take];omega),List.getElem?_drop]at hj hu
   have e1:off+ys.toList.length+(j -(vs.toList.take off++ys.toList).length)=j:=by simp only[List.length_append,List.length_take];omega
   have e2:off+xs.length+(j -(cs.take off++xs).length)=j:=by simp only[List.length_append,List.length_take];omega
   rw[e1]at hj
   rw[e2]at hu
   exact h2 j x u hj hu
theorem JV {cs xs:List AV} (h: ∀c∈cs,c.one=true) (hx: ∀c∈xs,c.one=true) (off:Nat): ∀c∈putAt cs off xs,c.one=true:=by
 intro c hc
 simp only[putAt,List.mem_append]at hc
 rcases hc with (hc|hc)|hc
 ·exact h c (List.mem_of_mem_take hc)
 ·exact hx c hc
 ·exact h c (List.mem_of_mem_drop hc)
theorem dJ.zY {H:PH}{vs:Array Value}{cs:List AV} (h:dJ H vs cs) (db: ∀c∈cs,c.one=true): ∀x∈vs.toList,x.oneCell'=true:=by
 intro x hx
 obtain⟨j,hj⟩:=List.getElem?_of_mem hx
 obtain⟨h1,h2⟩:=dJ.lD.1 h
 have aW:j<cs.length:=by rw[←h1];exact(List.getElem?_eq_some_iff.1 hj).1
 exact(h2 j x _ hj (List.getElem?_eq_getElem aW)).zY (db _ (List.getElem_mem aW))
theorem Step.store {H:PH}{s:Hp}{w:World} (h:dv H s w) {l:Nat}{cs:List AV} (hl:s l=some (.cells cs)) (off:Nat) (xs:List AV) (ys:Array Value) (hx:dJ H ys xs)
  (db: ∀c∈xs,c.one=true) (CL:off+xs.length≤cs.length):
  ∃vs T,w.heap[l]? =some (.cells vs T (0,0))∧vs.size=cs.length∧Step H s w H (s.set l (.cells (putAt cs off xs))) (w.setRow l (jW vs off ys.toList)):=by
 obtain⟨h1,vs,T,hh,hr,hn⟩:=h.ob l _ hl
 refine⟨vs,T,hh,hr.1,?_⟩
 have:=Step.write (w':=w.setRow l (jW vs off ys.toList)) h l 0 (jW vs off ys.toList) T (s.set l (.cells (putAt cs off xs))) rfl rfl rfl (by simp) (setRow_heap w l vs _ T _ hh)
  (fun b _ hb=>setRow_other w l b _ hb) (.inr (by simp[hl])) (Nat.zero_le _) (fun o v hv=>by rw[hn]at hv;cases hv) (fun l' o gX hs=>by rw[Hp.aX _ _ gX]at hs;exact hs)
  (fun o ho=>by
   rw[Hp.bt]at ho;obtain rfl:=Option.some.inj ho
   rw[PH.yL]
   exact⟨JV h1 db off,_,T,setRow_heap w l vs _ T _ hh,hr.putAt hx off CL,hn⟩)
 rwa[PH.yL]at this
theorem Step.storeT {H:PH}{s:Hp}{w:World} (h:dv H s w) {l:Nat}{T:TypeId}{cs:List AV} (hl:s l=some (.tc T cs)) (off:Nat) (xs:List AV) (ys:Array Value) (hx:dJ H ys xs)
  (db: ∀c∈xs,c.one=true) (CL:off+xs.length≤cs.length):
  ∃vs,w.heap[l]? =some (.cells vs T (0,0))∧vs.size=cs.length∧Step H s w H (s.set l (.tc T (putAt cs off xs))) (w.setRow l (jW vs off ys.toList)):=by
 obtain⟨h1,vs,hh,hr,hn⟩:=h.ob l _ hl
 refine⟨vs,hh,hr.1,?_⟩
 have:=Step.write (w':=w.setRow l (jW vs off ys.toList)) h l 0 (jW vs off ys.toList) T (s.set l (.tc T (putAt cs off xs))) rfl rfl rfl (by simp) (setRow_heap w l vs _ T _ hh)
  (fun b _ hb=>setRow_other w l b _ hb) (.inr (by simp[hl])) (Nat.zero_le _) (fun o v hv=>by rw[hn]at hv;cases hv) (fun l' o gX hs=>by rw[Hp.aX _ _ gX]at hs;exact hs)
  (fun o ho=>by
   rw[Hp.bt]at ho;obtain rfl:=Option.some.inj ho
   rw[PH.yL]
   exact⟨JV h1 db off,_,setRow_heap w l vs _ T _ hh,hr.putAt hx off CL,hn⟩)
 rwa[PH.yL]at this
theorem a5X (vs:Array Value) (off:Nat) (xs:List Value) (h:off+xs.length≤vs.size):(jW vs off xs).size=vs.size:=by
 simp[jW];omega
theorem Step.ZW {H:PH}{s:Hp}{w:World} (h:dv H s w) {l:Nat}{cs:List AV} (hl:s l=some (.sc cs)) (off:Nat) (xs:List AV) (ys:Array Value) (hx:dJ H ys xs)
  (db: ∀c∈xs,c.one=true) (CL:off+xs.length≤cs.length):
  ∃vs T,w.heap[l]? =some (.cells vs T (vs.size,vs.size+1))∧vs.size=cs.length∧Step H s w H (s.set l (.sc (putAt cs off xs))) (w.setRow l (jW vs off ys.toList)):=by
 obtain⟨h1,vs,T,hh,hr,hn⟩:=h.ob l _ hl
 refine⟨vs,T,hh,hr.1,?_⟩
 have sZ:ys.toList.length=xs.length:=by have:=hx.1;simpa using this
 have fK:(jW vs off ys.toList).size=vs.size:=a5X _ _ _ (by rw[sZ,hr.1];exact CL)
 have:=Step.write (w':=w.setRow l (jW vs off ys.toList)) h l 0 (jW vs off ys.toList) T (s.set l (.sc (putAt cs off xs))) rfl rfl rfl (by simp) (setRow_heap w l vs _ T _ hh)
  (fun b _ hb=>setRow_other w l b _ hb) (.inr (by simp[hl])) (Nat.zero_le _) (fun o v hv=>by rw[hn]at hv;cases hv) (fun l' o gX hs=>by rw[Hp.aX _ _ gX]at hs;exact hs)
  (fun o ho=>by
   rw[Hp.bt]at ho;obtain rfl:=Option.some.inj ho
   rw[PH.yL]
   exact⟨JV h1 db off,_,T,by rw[fK];exact setRow_heap w l vs _ T _ hh,hr.putAt hx off CL,hn⟩)
 rwa[PH.yL]at this
theorem Step.Rj {H:PH}{s:Hp}{w:World} (h:dv H s w) {l:Nat}{cs:List AV} (hl:s l=some (.cells cs)∨(∃T,s l=some (.tc T cs))∨s l=some (.sc cs)):
  ∃H',Step H s w H' (s.set l (.ro cs)) w:=by
 obtain⟨hs,h1,vs,T,fz,hh,hr,hn⟩:(s l≠none∧ ∀cs,s l≠some (.ro cs))∧(∀c∈cs,c.one=true)∧ ∃vs T fz,w.heap[l]? =some (.cells vs T fz)∧dJ H vs cs∧ ∀o,H l o=none:=by
  rcases hl with hl|⟨T,hl⟩|hl
  ·obtain⟨h1,vs,T,hh,hr,hn⟩:=h.ob l _ hl;exact⟨by simp[hl],h1,vs,T,_,hh,hr,hn⟩
  ·obtain⟨h1,vs,hh,hr,hn⟩:=h.ob l _ hl;exact⟨by simp[hl],h1,vs,T,_,hh,hr,hn⟩
  ·obtain⟨h1,vs,T,hh,hr,hn⟩:=h.ob l _ hl;exact⟨by simp[hl],h1,vs,T,_,hh,hr,hn⟩
 refine⟨H.ext l vs.size vs,Step.write (w':=w) h l vs.size vs T _ rfl rfl rfl (Nat.le_refl _) hh (fun _ _ _=>rfl) (.inr hs) (Nat.le_refl _) (fun o v hv=>by rw[hn]at hv;cases hv)
  (fun l' o gX hs=>by rw[Hp.aX _ _ gX]at hs;exact hs) (fun o ho=> ?_)⟩
 rw[Hp.bt]at ho;obtain rfl:=Option.some.inj ho
 have hle:H.le (H.ext l vs.size vs):=fun b o v hv=>by
  rw[PH.E0 _ _ _ _ (fun hh=>by obtain⟨rfl,_⟩:=hh;rw[hn]at hv;cases hv)];exact hv
 refine⟨h1,vs,T,fz,hh,hr.mono hle,fun o ho=> ?_⟩
 rw[PH.Fu _ _ _ _ ho]
 simp[ho]
theorem Step.freeze {H:PH}{s:Hp}{w:World} (h:dv H s w) {l:Nat}{cs:List AV} (hl:s l=some (.cells cs)): ∃H',Step H s w H' (s.set l (.ro cs)) w:=Step.Rj h (.inl hl)
theorem dJ.sub {H:PH}{vs:Array Value}{cs:List AV} (h:dJ H vs cs) (off n:Nat) (hn:off+n≤cs.length):dJ H (vs.extract off (off+n)) ((cs.drop off).take n):=by
 rw[dJ.lD]at h⊢
 obtain⟨h1,h2⟩:=h
 have hs:vs.size=cs.length:=by simpa using h1
 refine⟨by simp;omega,fun j x u hx hu=> ?_⟩
 have hj:j<n:=by
  have:=(List.getElem?_eq_some_iff.1 hu).1
  simp at this;omega
 rw[List.getElem?_take_of_lt hj,List.getElem?_drop]at hu
 refine h2 (off+j) x u ?_ hu
 rw[Array.getElem?_toList]at hx
 rw[Array.getElem?_extract]at hx
 split at hx
 ·simpa using hx
 ·cases hx
theorem Step.other {H:PH}{s:Hp}{w w':World} (h:dv H s w) (g:Nat) (ob:Ob)
  (Tu:w'.os=w.os) (PR:w'.tape=w.tape) (CJ:w'.output=w.output) (S5:w.heap.size≤w'.heap.size)
  (bI: ∀b,b<w.heap.size→b≠g→w'.heap[b]? =w.heap[b]?) (E9:g=w.heap.size∨(s g≠none∧ ∀cs,s g≠some (.ro cs))) (hH: ∀o,H g o=none)
  (Gd:Ae H w' g ob):Step H s w H (s.set g ob) w':=by
 refine⟨⟨fun b o v hv=> ?_,fun l o hl=> ?_⟩,.refl H,Tu,PR,CJ,S5,fun b hb hs=> ?_,fun b hb=> ?_,fun b o hb=> .inl hb,fun b cs hb hs=> ?_⟩
 ·have hb:b≠g:=by rintro rfl;rw[hH]at hv;cases hv
  have aW:=h.lt hv
  rw[←h.ro b o v hv]
  exact World.cell?_of_block (bI b aW hb)
 ·by_cases hb:l=g
  ·subst hb;rw[Hp.bt]at hl;obtain rfl:=Option.some.inj hl;exact Gd
  ·rw[Hp.aX _ _ hb]at hl
   have h1:=h.ob l o hl
   exact h1.kept (.refl H) (bI l h1.lt hb) (fun i hi=>hi)
 ·refine bI b hb fun tO=> ?_
  subst tO
  rcases E9 with rfl|hf
  ·omega
  ·exact hf.1 hs
 ·by_cases tO:b=g
  ·subst tO
   rcases E9 with rfl|hf
   ·exact .inr (Nat.le_refl _)
   ·exact .inl hf.1
  ·rw[Hp.aX _ _ tO]at hb;exact .inl hb
 ·have tO:b≠g:=by
   rintro rfl
   rcases E9 with rfl|hf
   ·omega
   ·exact hf.2 cs hs
  exact⟨bI b hb tO,.inr ⟨cs,by rw[Hp.aX _ _ tO];exact hs⟩⟩
theorem Step.Yc {H:PH}{s:Hp}{w:World} (h:dv H s w) (o:Obj) (ob:Ob) (Gd:Ae H (w.alloc o) w.heap.size ob):Step H s w H (s.set w.heap.size ob) (w.alloc o):=
 .other h _ ob rfl rfl rfl (by simp) (fun b _ hb=>DS w _ b hb) (.inl rfl) h.xH Gd
theorem dv.a96 {H:PH}{s:Hp}{w:World} (h:dv H s w) {l:Nat}{o:Obj} (hl:w.heap[l]? =some o) (hc: ∀c e f,o≠ .cells c e f) (i:Nat):H l i=none:=by
 cases hv:H l i with
 |none=>rfl
 |some v=>
  exfalso
  have:=h.ro l i v hv
  simp only[World.cell?,hl]at this
  split at this
  ·rename_i c e f heq;exact hc c e f (Option.some.inj heq)
  ·cases this
theorem Step.N4 {H:PH}{s:Hp}{w:World} (h:dv H s w) {l:Nat}{o o':Obj}{ob:Ob} (hs:s l≠none∧ ∀cs,s l≠some (.ro cs)) (hl:w.heap[l]? =some o) (hc: ∀c e f,o≠ .cells c e f) (Gd:Ae H {w with heap:=w.heap.setIfInBounds l o'} l ob):
  Step H s w H (s.set l ob) {w with heap:=w.heap.setIfInBounds l o'}:=
 .other h l ob rfl rfl rfl (by simp) (fun b _ hb=>Array.getElem?_setIfInBounds_ne (Ne.symm hb)) (.inr hs) (h.a96 hl hc) Gd
theorem Q3 (P:Program) (g o:Nat) (t:TypeId) (fz:Nat×Nat): ∀(vs:List Value) (i:Nat) (cur:Array Value) (w:World),w.heap[g]? =some (.cells cur t fz)→(∀j,j<cur.size→ ¬(fz.1≤j∧j<fz.2))→o+i+vs.length≤cur.size→(∀v∈vs,v.oneCell'=true)→
  (storeCells ⟨g,o,none⟩ vs i).run P w= .ok () (w.setRow g (cur.toList.take (o+i)++vs++cur.toList.drop (o+i+vs.length)).toArray)
 | [],i,cur,w,hg,_,_,_=>by
  simp only[storeCells,List.append_nil,List.length_nil,Nat.add_zero,List.take_append_drop,Array.toArray_toList]
  rw[setRow_self w g cur t fz hg]
  rfl
 |v::rest,i,cur,w,hg,II,hl,h1=>by
  have hi:o+i<cur.size:=by simp at hl;omega
  have NY:(⟨g,o,none⟩:Addr).add i=⟨g,o+i,none⟩:=by unfold Addr.add;split<;>simp_all
  have vG:w.cell? ⟨g,o+i,none⟩=some cur[o+i]:=by simp[World.cell?,hg,hi]
  have agk:w.frozen? ⟨g,o+i,none⟩=false:=by
   have:=II (o+i) hi
   obtain⟨lo,wW⟩:=fz
   simp only[World.frozen?,hg,Bool.and_eq_false_iff,decide_eq_false_iff_not]
   simp only at this
   omega
  have dT:(store ((⟨g,o,none⟩:Addr).add i) v).run P w= .ok () (w.setRow g (cur.setIfInBounds (o+i) v)):=by
   rw[NY,run_store P w _ v _ (h1 v (by simp)),vG]
   simp[agk,setCell_eq_setRow w g (o+i) cur t fz v hg]
  have ih:=Q3 P g o t fz rest (i+1) (cur.setIfInBounds (o+i) v) (w.setRow g (cur.setIfInBounds (o+i) v)) (setRow_heap w g cur _ t _ hg) (fun j hj=>II j (by simpa using hj)) (by simp at hl⊢;omega) (fun x hx=>h1 x (by simp[hx]))
  simp only[storeCells,Sem.run_bind,dT,Result.andThen_ok,ih,setRow_setRow]
  congr 3
  have e:=list_seg_step cur.toList (o+i) v rest (by simp at hl⊢;omega)
  simpa[Array.toList_setIfInBounds,Nat.add_assoc] using e
theorem I7 (n:Nat): ∀j,j<n→ ¬(((0,0):Nat×Nat).1≤j∧j<((0,0):Nat×Nat).2):=fun j _=>by simp
theorem a0r (n:Nat): ∀j,j<n→ ¬(((n,n+1):Nat×Nat).1≤j∧j<((n,n+1):Nat×Nat).2):=fun j hj=>by simp only;omega
section
variable {P:Program}
structure Src (P:Program) (w:World) (k m:Nat) (x:Value) (news:List Value):Prop where
 len:(Builtin.lenOf x).run P w= .ok m w
 cells:(Builtin.firstCells k m x).run P w= .ok news.toArray w
 abQ:(Builtin.firstCells k m x).run P w.drew= .ok news.toArray w.drew
 size:news.length=m*k
theorem Qa (w:World) (t xt ty e:TypeId) (i:TypeInfo) (ht:P.underlying t=some (.slice e)) (d:TypeDesc) (qz:P.underlying xt=some d) (hd:(∃e',d= .slice e')∨d= .string)
  (hi:P.info? e=some i) (g n cap:Nat) (cur:Array Value) (T:TypeId) (fz:Nat×Nat) (hg:w.heap[g]? =some (.cells cur T fz)) (II: ∀j,j<cur.size→ ¬(fz.1≤j∧j<fz.2))
  (m:Nat) (x:Value) (news:List Value) (hs:Src P w i.size m x news) (h1: ∀u∈news,u.oneCell'=true) (rm:n+m≤cap) (jB:n*i.size+news.length≤cur.size):
  (Builtin.append_ #[t,xt] ty #[.slice (some ⟨g,0,none⟩) n cap,x]).run P w= .ok (.slice (some ⟨g,0,none⟩) (n+m) cap) (w.setRow g (jW cur (n*i.size) news)):=by
 have dT:=Q3 P g (n*i.size) T fz news 0 cur w hg II (by simpa using jB) h1
 simp only[Nat.add_zero]at dT
 have Eg:(storeCells ⟨g,n*i.size,none⟩ news).run P w= .ok () (w.setRow g (jW cur (n*i.size) news)):=by rw[dT];rfl
 have hx: ∀w':World,(underlying xt).run P w'= .ok d w':=fun w'=>run_underlying qz w'
 rcases hd with ⟨e',rfl⟩|rfl<;>simp[Builtin.append_,run_underlying ht,hx,sizeOf,typeInfo,hi,hs.len,rm,hs.cells,Addr.add_lit,Eg]
theorem Fe (w:World) (t xt ty e:TypeId) (i:TypeInfo) (z:Value) (ht:P.underlying t=some (.slice e)) (d:TypeDesc) (qz:P.underlying xt=some d) (hd:(∃e',d= .slice e')∨d= .string)
  (hi:P.info? e=some i) (hz:i.zero=some z) (base:Option Addr) (n cap:Nat) (mB:List Value) (qd:mB.length=n*i.size)
  (ho:(Builtin.firstCells i.size n (.slice base n cap)).run P w.drew= .ok mB.toArray w.drew)
  (m:Nat) (x:Value) (news:List Value) (hs:Src P w i.size m x news) (hg:cap<n+m) (td:((n+m:Nat):Int)≤9223372036854775807) (jB:(n+m)*i.bytes≤140737488355328):
  (Builtin.append_ #[t,xt] ty #[.slice base n cap,x]).run P w=
   .ok (.slice (some ⟨w.heap.size,0,none⟩) (n+m) (grownCap w (n+m) cap e))
    (w.drew.alloc (.cells (mB.toArray++news.toArray++Builtin.zeroCells z.cells (grownCap w (n+m) cap e -(n+m))) e)):=by
 have hn: ¬(n+m≤cap):=by omega
 have SA: ¬(9223372036854775807<((n:Int)+(m:Int))):=by omega
 have SB: ¬(281474976710656<Builtin.nextslicecap (n+m) cap*i.bytes):=by have:=growslice_fits hg jB;omega
 have hx: ∀w':World,(underlying xt).run P w'= .ok d w':=fun w'=>run_underlying qz w'
 rcases hd with ⟨e',rfl⟩|rfl
 all_goals
  simp[Builtin.append_,run_underlying ht,hx,sizeOf,typeInfo,zeroValue,hi,hz,hs.len,hn,SA,SB,Question.forced,hs.abQ,ho,newRow,grownCap]
  try (congr 2;apply Array.ext';simp[List.append_assoc])
end
abbrev Fr:=Nat→AV
def D8 (f:Fr) (d:Nat) (a:AV):Fr:=fun t=>if t=d then a else f t
def lO (f:Fr) (d:Option Nat) (a:AV):Fr:=
 match d with
 |some d=>D8 f d a
 |none=>f
def gS:Value→AV
 | .slice none 0 0=> .sl [] .nil
 |x=> .v x
def ofConst:Value→AV
 | .agg cs=> .agg (cs.toList.map gS)
 | .tuple cs=> .dr (cs.toList.map gS)
 |x=>gS x
def E1:Value→Bool
 | .agg cs=>cs.toList.all (·.oneCell')
 | .tuple cs=>cs.toList.all (·.oneCell')
 |x=>x.oneCell'
def cd:Operand→Bool
 | .const v=>E1 v
 | _=>true
def ev (f:Fr):Operand→AV
 | .tmp t=>f t
 | .const v=>ofConst v
 | .global g=> .ptr g 0
 | .func n=> .eU n [] []
theorem RV.gS (H:PH) (x:Value) (h:x.oneCell'=true):RV H x (gS x):=by
 unfold Go.Av.gS
 split
 ·exact .jo _ _ _ (fun _=>rfl) rfl
 ·exact .v x h
theorem Br (x:Value):(gS x).one=true:=by
 unfold gS;split<;>rfl
theorem dJ.CC (H:PH) (cs:Array Value) (h: ∀x∈cs.toList,x.oneCell'=true):dJ H cs (cs.toList.map Go.Av.gS):=by
 refine dJ.lD.2 ⟨by simp,fun j x u hx hu=> ?_⟩
 rw[List.getElem?_map,hx]at hu
 obtain rfl:gS x=u:=by simpa using hu
 exact RV.gS H x (h x (List.mem_of_getElem? hx))
theorem RV.ofConst (H:PH) (x:Value) (h:E1 x=true):RV H x (ofConst x):=by
 cases x<;>first
  |exact RV.gS H _ h
  |skip
 case agg cs=>
  have h': ∀x∈cs.toList,x.oneCell'=true:=by simp only[E1,List.all_eq_true]at h;exact h
  obtain⟨h1,h2⟩:=dJ.CC H cs h'
  refine .agg cs _ (fun c hc=> ?_) h1 h2
  obtain⟨x,_,rfl⟩:=List.mem_map.1 hc
  exact Br x
 case tuple cs=>
  have h': ∀x∈cs.toList,x.oneCell'=true:=by simp only[E1,List.all_eq_true]at h;exact h
  obtain⟨h1,h2⟩:=dJ.CC H cs h'
  exact .dr cs _ h1 h2
def eo (H:PH) (a:Act) (f:Fr):Prop:= ∀t,RV H (a.tmps.getD t undef) (f t)
theorem eo.ev {H:PH}{a:Act}{f:Fr} (h:eo H a f) (x:Operand) (hx:cd x=true):RV H (a.eval x) (ev f x):=by
 cases x with
 |tmp t=>exact h t
 |const v=>exact RV.ofConst H v hx
 |global g=>exact .ptr g 0
 |func n=>exact .eU n #[] #[] [] [] rfl (fun j u h=>by simp at h) rfl (fun j u h=>by simp at h)
theorem eo.mono {H H':PH}{a:Act}{f:Fr} (h:eo H a f) (hle:H.le H'):eo H' a f:=fun t=>(h t).mono hle
theorem eo.put {H:PH}{a:Act}{f:Fr} (h:eo H a f) (d:Option Nat) (hd: ∀t,d=some t→t<a.tmps.size) {v:Value}{r:AV} (hv:RV H v r):eo H (a.put d v) (lO f d r):=by
 cases d with
 |none=>exact h
 |some d=>
  intro t
  have aW:=hd d rfl
  by_cases ht:t=d
  ·subst ht
   simp only[lO,D8,if_true,Act.put]
   rw[Array.getD_eq_getD_getElem?,Array.getElem?_setIfInBounds_self_of_lt aW]
   exact hv
  ·simp only[lO,D8,if_neg ht,Act.put]
   rw[Array.getD_eq_getD_getElem?,Array.getElem?_setIfInBounds_ne (Ne.symm ht),←Array.getD_eq_getD_getElem?]
   exact h t
def cK (agg:Bool) (n:Nat) (cs:List AV):AV:=if agg then .agg (cs.take n)else cs.headD (.dr [])
def Hp.read (s:Hp) (l:Nat):Option (List AV):=
 match s l with
 |some (.cells cs)=>some cs
 |some (.ro cs)=>some cs
 |some (.tc _ cs)=>some cs
 |some (.sc cs)=>some cs
 | _=>none
def nN (k n:Nat) (cs:List AV):List AV:=if k=1 then cs.take n else(List.range n).map fun i=> .agg ((cs.drop (i*k)).take k)
def uk (op:BinOp) (k:IntKind) (a b:Int):Option Value:=
 match op with
 | .add=>some (.int k (k.wrap (a+b)))
 | .sub=>some (.int k (k.wrap (a - b)))
 | .mul=>some (.int k (k.wrap (a*b)))
 | .quo=>if b=0 then none else some (.int k (k.wrap (a.tdiv b)))
 | .rem=>if b=0 then none else some (.int k (a.tmod b))
 | .and=>some (.int k (k.wrap (BitVec.ofInt k.bits a&&&BitVec.ofInt k.bits b).toNat))
 | .or=>some (.int k (k.wrap (BitVec.ofInt k.bits a|||BitVec.ofInt k.bits b).toNat))
 | .xor=>some (.int k (k.wrap (BitVec.ofInt k.bits a^^^BitVec.ofInt k.bits b).toNat))
 | .andNot=>some (.int k (k.wrap (BitVec.ofInt k.bits a&&& ~~~(BitVec.ofInt k.bits b)).toNat))
 | .eql=>some (.bool (decide (a=b)))
 | .neq=>some (.bool (decide (a≠b)))
 | .lss=>some (.bool (decide (a<b)))
 | .leq=>some (.bool (decide (a≤b)))
 | .gtr=>some (.bool (decide (b<a)))
 | .geq=>some (.bool (decide (b≤a)))
 | _=>none
def DX (op:BinOp) (k:IntKind) (x y:Int):Option Value:=
 if y<0 then none else
 match op with
 | .shl=>some (.int k (k.wrap (x*2^(min y.toNat k.bits))))
 | .shr=>some (.int k (x.fdiv (2^(min y.toNat k.bits))))
 | _=>none
def pX:BinOp→Bool
 | .shl| .shr=>true
 | _=>false
def Ki (op:BinOp) (x y:ByteArray):Option Value:=
 match op with
 | .add=>if x.size+y.size≤9223372036854775807 then some (.string (x++y))else none
 | .eql=>some (.bool (x.toList==y.toList))
 | .neq=>some (.bool (!(x.toList==y.toList)))
 | .lss=>some (.bool (Op.bytesLess x.toList y.toList))
 | .leq=>some (.bool (Op.bytesLess x.toList y.toList||x.toList==y.toList))
 | .gtr=>some (.bool (!(Op.bytesLess x.toList y.toList||x.toList==y.toList)))
 | .geq=>some (.bool (!(Op.bytesLess x.toList y.toList)))
 | _=>none
def eL (op:BinOp):Value→Value→Option Value
 | .int k a,.int k' b=>if pX op then DX op k a b else if k=k' then uk op k a b else none
 | .string x,.string y=>Ki op x y
 | _,_=>none
def Es (op:UnOp):Value→Option Value
 | .bool b=>match op with| .not=>some (.bool !b)| _=>none
 | .int k n=>match op with
  | .neg=>some (.int k (k.wrap (0 - n)))
  | .xor=>some (.int k (k.wrap (BitVec.ofInt k.bits (if k.signed then -1 else k.max)^^^BitVec.ofInt k.bits n).toNat))
  | _=>none
 | _=>none
noncomputable def AA (a b:AV):Bool:= @decide (a=b) (Classical.propDecidable _)
theorem K7 (a b:AV):AA a b=true↔a=b:=by simp[AA]
inductive CK where
 |int (k:IntKind)
 |bool
 |str
 deriving DecidableEq
def CK.fit:CK→Value→Prop
 | .int k,.int k' _=>k=k'
 | .bool,.bool _=>True
 | .str,.string _=>True
 | _,_=>False
def CK.a0N:CK→AV→Prop
 | .int k,.v (.int k' _)=>k=k'
 | .bool,.v (.bool _)=>True
 | .str,.v (.string _)=>True
 | _,_=>False
def gZ:List (Nat×CK)→List AV→Prop
 | [],cs=>cs= []
 |(n,k)::r,cs=>n≤cs.length∧(∀c∈cs.take n,k.a0N c)∧gZ r (cs.drop n)
noncomputable def kx:List (AV×AV×Nat)→AV→Nat→Option (Nat×AV)
 | [],_,_=>none
 |u::us,k,i=>if AA k u.1 then some (i,u.2.1)else kx us k (i+1)
noncomputable def Af (us:List (AV×AV×Nat)) (k v:AV) (clock:Nat):List (AV×AV×Nat)×Nat:=
 match kx us k 0 with
 |some (j,_)=>(us.modify j fun u=>(u.1,v,u.2.2),clock)
 |none=>(us++ [(k,v,clock)],clock+1)
noncomputable def uu (us:List (AV×AV×Nat)) (k z:AV) (clock:Nat):AV×Nat×List (AV×AV×Nat)×Nat:=
 match kx us k 0 with
 |some (j,v)=>(v,((us[j]?).map (·.2.2)).getD 0,us,clock)
 |none=>(z,clock,us++ [(k,z,clock)],clock+1)
def FC (us:List (AV×AV×Nat)) (b:Int):Option Nat:=us.findIdx? fun u=>(u.2.2:Int)==b
def Fv (rs:List (Nat×CK)) (us:List (AV×AV×Nat)):Prop:= ∀u∈us,∃ds,u.1= .agg ds∧gZ rs ds
inductive iu where
 |mv (x:Operand)
 |pick (c a b:Operand)
 |alloc (T:TypeId) (zero:List AV)
 |box (T:TypeId) (x:Operand)
 |yX (T:TypeId) (x:Operand)
 |load (agg:Bool) (n:Nat) (x:Operand)
 |store (n:Nat) (x y:Operand)
 |df (x:Operand)
 |fa (off:Nat) (x:Operand)
 |jD (k len:Nat) (x i:Operand)
 |kA (k:Nat) (x i:Operand)
 |Lb (agg:Bool) (off n:Nat) (x:Operand)
 |Im (agg:Bool) (k len:Nat) (x i:Operand)
 |CM (x i:Operand)
 |gf (zero:List AV) (parts:List (Nat×Nat×Operand))
 |gL (k:Nat) (xs:List Operand)
 |pI (k:Nat) (x:Operand) (lo hi:Option Operand)
 |NZ (x:Operand)
 |BK (k n:Nat) (x:Operand) (lo hi:Option Operand) (ro:Bool)
 |yY (k n:Nat) (x:Operand) (lo hi:Option Operand)
 |Io (x:Operand) (lo hi:Option Operand)
 |len (x:Operand)
 |KI (x:Operand)
 |KJ (n:Nat)
 |bin (op:BinOp) (x y:Operand)
 |eqv (neg:Bool) (ks:List (Nat×CK)) (x y:Operand)
 |Lc (neg:Bool) (x y:Operand)
 |Ge (neg:Bool) (x y:Operand)
 |un (op:UnOp) (x:Operand)
 |jF (k:IntKind) (x:Operand)
 |app (k bytes:Nat) (x y:Operand)
 |bu (fn:FuncId) (args:List Operand)
 |ext (x:Operand) (i:Nat)
 |mm (mx:Bool) (k:IntKind) (x y:Operand)
 |D9 (x:Operand)
 |zo (k bytes:Nat) (z:List AV) (x y:Operand)
 |Da (k:Nat) (x y:Operand)
 |wX (neg:Bool) (x:Operand)
 |qw (k:Nat) (xs:List Operand)
 |nh (k bytes:Nat) (x y:Operand)
 |CN (x:Operand)
 |Ld (x:Operand)
 |Ei (x:Operand)
 |eU (fn:FuncId) (first cap:List Operand)
 |rn (x:Operand) (args:List Operand)
 |Db (t:TypeId) (x:Operand)
 |Ej (t:TypeId) (ok:Bool) (z:AV) (x:Operand)
 |Lg (neg:Bool) (x:Operand)
 |KK (neg:Bool) (x:Operand)
 |CP (neg:Bool) (x y:Operand)
 |zp (x:Operand)
 |Ag (x:Operand)
 |Ek (x:Operand)
 |A4 (T:TypeId) (zero:List AV)
 |zq
 |BR (ok:Bool) (rs:List (Nat×CK)) (z:AV) (x k:Operand)
 |BS (rs:List (Nat×CK)) (x k v:Operand)
 |El (rs:List (Nat×CK)) (z:AV) (x k:Operand)
 |Et (x i v:Operand)
 |Fx (n:Nat) (x y:Operand)
 |Em (e:TypeId) (x y:Operand)
 |BT (x:Operand)
 |BU (T:TypeId) (n:Nat) (x:Operand)
 |KL (x:Operand)
 |En (e:TypeId) (x y:Operand)
 |wS (x:Operand)
 |gu (k:Nat) (x:Operand) (lo hi mx:Option Operand)
 |AB (k:Nat) (z:List AV) (x:Operand)
 |pD (k:Nat) (x y:Operand)
 |yZ (k bytes:Nat) (z:List AV) (x y:Operand)
 |zr (x y:Operand)
def A5 (P:Program) (g:FuncId):Bool:=
 match P.funcs[g]? with
 |some fn=>fn.body.isSome&&fn.name != "runtime.NumGoroutine"
 |none=>false
structure Ctx where
 p:Program
 k:AV→Hp→Prop
@[reducible] def Ctx.of (p:Program):Ctx:=⟨p,fun _ _=>False⟩
def yU (f:Fr) (cells:List AV):List (Nat×Nat×Operand)→(List AV→Prop)→Prop
 | [],Kc=>Kc cells
 |(off,sz,x)::r,Kc=>(ev f x).cells.length=sz∧off+sz≤cells.length∧yU f (putAt cells off (ev f x).cells) r Kc
def bN (b:UInt8):AV:= .v (.int .u8 b.toNat)
def byteOf:AV→Option UInt8
 | .v (.int .u8 n)=>if 0≤n∧n<256 then some (UInt8.ofNat n.toNat)else none
 | _=>none
def bytesOf:List AV→Option (List UInt8)
 | []=>some []
 |x::r=>match byteOf x,bytesOf r with
  |some b,some bs=>some (b::bs)
  | _,_=>none
theorem a44 (b:UInt8):byteOf (bN b)=some b:=by
 have h:=b.toNat_lt
 have h':(0:Int)≤(b.toNat:Int)∧(b.toNat:Int)<256:=by omega
 simp[byteOf,bN,h']
theorem JL: ∀l:List UInt8,bytesOf (l.map bN)=some l
 | []=>rfl
 |b::l=>by simp[bytesOf,a44,JL l]
def mf (f:Fr) (x:Option Operand) (d:Nat):Option Int:=
 match x with
 |none=>some d
 |some x=>match ev f x with
  | .v (.int _ n)=>some n
  | _=>none
def RI (o:Own) (lo hi:Option Operand):Own:=
 match lo,hi with
 |none,none=>o
 | _,_=> .any
def Kp (lo:Bool) (l a b cap k:Nat):AV:=if lo=true then .gK l (a*k) (b - a) k else .mb l b cap k
def hU (s:Hp) (k:Nat) (y:AV):Option (Nat×List AV):=
 match y with
 | .sl ys _=>if ys.all (fun e=>decide (e.cells.length=k))=true then some (ys.length,flat ys)else none
 | .mb l n _ k'=>match s.read l with
  |some cs=>if k'=k∧n*k≤cs.length then some (n,cs.take (n*k))else none
  |none=>none
 | .gK l off n k'=>match s.read l with
  |some cs=>if k'=k∧off+n*k≤cs.length then some (n,(cs.drop off).take (n*k))else none
  |none=>none
 | _=>none
def Ah (s:Hp) (k:Nat) (y:AV):Option (Nat×List AV):=
 match y with
 | .v (.string t)=>if k=1 then some (t.size,t.data.toList.map bN)else none
 |y=>hU s k y
theorem YW {s:Hp}{k:Nat}{y:AV}{r:Nat×List AV} (h:hU s k y=some r):Ah s k y=some r:=by
 unfold Ah
 split
 ·simp[hU]at h
 ·exact h
def zZ (s:Hp) (l:Nat):Bool:=
 match s l with
 |some (.cells _)=>true
 |some (.tc _ _)=>true
 | _=>false
def Ip:AV→Option AV
 | .mb _ _ cap _=>some (.v (.int .i64 cap))
 | .sl [] .nil=>some (.v (.int .i64 0))
 | _=>none
def KM (f:Fr) (k:Nat) (x:AV) (lo hi mx:Option Operand):Option AV:=
 match x with
 | .mb l len cap k'=>match mf f lo 0,mf f hi len,mf f mx cap with
  |some a,some b,some m=>if k'=k∧0≤a∧a≤b∧b≤m∧m≤cap then
    some (if lo.isSome=true then(if a<m then .gK l (a.toNat*k) (b.toNat - a.toNat) k else .sl [] .any)else .mb l b.toNat m.toNat k)
   else none
  | _,_,_=>none
 | .sl [] .nil=>match mf f lo 0,mf f hi 0,mf f mx 0 with
  |some a,some b,some m=>if a=0∧b=0∧m=0 then some (.sl [] .nil)else none
  | _,_,_=>none
 | _=>none
def Ai (k:Nat) (z:List AV) (x:AV) (s:Hp):Option Hp:=
 match x with
 | .gK l off n k'=>match s l with
  |some (.cells cs)=>if k'=k∧off+n*k≤cs.length then some (s.set l (.cells (putAt cs off (List.replicate n z).flatten)))else none
  | _=>none
 | .sl [] _=>some s
 | _=>none
def CQ (k:Nat) (x y:AV) (s:Hp):Option (AV×Hp):=
 match hU s k y with
 |some (m,ys)=>match x with
  | .gK l off n k'=>match s l with
   |some (.cells cs)=>if k'=k∧off+n*k≤cs.length then some (.v (.int .i64 (min m n:Nat)),s.set l (.cells (putAt cs off (ys.take (n*k)))))else none
   | _=>none
  | .mb l n _ k'=>match s l with
   |some (.cells cs)=>if k'=k∧n*k≤cs.length then some (.v (.int .i64 (min m n:Nat)),s.set l (.cells (putAt cs 0 (ys.take (n*k)))))else none
   | _=>none
  | .sl [] _=>some (.v (.int .i64 0),s)
  | _=>none
 |none=>none
def Iq:AV→Option Nat
 | .mb l _ _ _=>some l
 | .gK l _ _ _=>some l
 | _=>none
def yM (s:Hp) (l:Nat):Bool:=
 match s l with
 |some (.cells (_:: _))=>true
 | _=>false
def Aj (x y:AV) (s:Hp):Option AV:=
 match Iq x,Iq y with
 |some l,some l'=>if l≠l'∧yM s l=true∧yM s l'=true then some (.v (.bool false))else none
 | _,_=>none
def G (P:Ctx) (op:iu) (f:Fr) (s:Hp) (K:AV→Hp→Prop):Prop:=
  match op with
  | .mv x=>K (ev f x) s
  | .pick c a b=>match ev f c with
    | .v (.bool t)=>K (if t then ev f a else ev f b) s
    | _=>False
  | .alloc _ zero=> ∀l,s l=none→K (.ptr l 0) (s.set l (.cells zero))
  | .box _ x=>0<(ev f x).cells.length∧ ∀l,s l=none→K (.ptr l 0) (s.set l (.cells (ev f x).cells))
  | .yX _ x=>0<(ev f x).cells.length∧ ∀l,s l=none→K (.ptr l 0) (s.set l (.ro (ev f x).cells))
  | .load agg n x=>match ev f x with
    | .ptr l off=>match s.read l with
      |some cs=>off+n≤cs.length∧K (cK agg n (cs.drop off)) s
      |none=>False
    | .eJ cs=>n≤cs.length∧K (cK agg n cs) s
    | _=>False
  | .store n x y=>match ev f x with
    | .ptr l off=>match s l with
      |some (.cells cs)=>(ev f y).cells.length=n∧off+n≤cs.length∧K (.dr []) (s.set l (.cells (putAt cs off (ev f y).cells)))
      | _=>False
    | _=>False
  | .df x=>match ev f x with
    | .ptr l off=>K (.ptr l off) s
    | .eJ cs=>K (.eJ cs) s
    | .eU n ds cs=>K (.eU n ds cs) s
    | _=>False
  | .fa off x=>match ev f x with
    | .ptr l o=>K (.ptr l (o+off)) s
    | .eJ cs=>K (.eJ (cs.drop off)) s
    | _=>False
  | .jD k len x i=>match ev f x,ev f i with
    | .ptr l o,.v (.int _ n)=>0≤n∧n<len∧K (.ptr l (o+n.toNat*k)) s
    | .eJ cs,.v (.int _ n)=>0≤n∧n<len∧K (.eJ (cs.drop (n.toNat*k))) s
    | _,_=>False
  | .kA k x i=>match ev f x,ev f i with
    | .sl xs _,.v (.int _ n)=>0≤n∧match xs[n.toNat]? with
      |some e=>e.cells.length=k∧K (.eJ e.cells) s
      |none=>False
    | .gK l off len k',.v (.int _ n)=>k'=k∧0≤n∧n<len∧K (.ptr l (off+n.toNat*k)) s
    | .mb l len _ k',.v (.int _ n)=>k'=k∧0≤n∧n<len∧K (.ptr l (n.toNat*k)) s
    | _,_=>False
  | .Lb agg off n x=>match ev f x with
    | .agg cs=>off+n≤cs.length∧K (cK agg n (cs.drop off)) s
    | _=>False
  | .Im agg k len x i=>match ev f x,ev f i with
    | .agg cs,.v (.int _ n)=>0≤n∧n<len∧n.toNat*k+k≤cs.length∧K (cK agg k (cs.drop (n.toNat*k))) s
    | _,_=>False
  | .CM x i=>match ev f x,ev f i with
    | .v (.string t),.v (.int _ n)=>0≤n∧match t.data[n.toNat]? with
      |some b=>K (.v (.int .u8 b.toNat)) s
      |none=>False
    | _,_=>False
  | .gf zero parts=>yU f zero parts fun cs=>K (.agg cs) s
  | .gL k xs=>(∀e∈xs.map (ev f),e.cells.length=k)∧
      (if xs.length=0 then K (.sl [] .zero) s else∀g,s g=none→K (.sl (xs.map (ev f)) (.buf g xs.length)) (s.set g (.buf k xs.length xs.length)))
  | .pI k x lo hi=>match ev f x with
    | .sl xs o=>match mf f lo 0,mf f hi xs.length with
      |some a,some b=>0≤a∧a≤b∧b≤xs.length∧(∀e∈xs,e.cells.length=k)∧K (.sl ((xs.take b.toNat).drop a.toNat) (RI o lo hi)) s
      | _,_=>False
    | .gK l off len k'=>match mf f lo 0,mf f hi len with
      |some a,some b=>k'=k∧0≤a∧a≤b∧b≤len∧a<len∧K (.gK l (off+a.toNat*k) (b.toNat - a.toNat) k) s
      | _,_=>False
    | .mb l len cap k'=>match mf f lo 0,mf f hi len with
      |some a,some b=>k'=k∧0≤a∧a≤b∧b≤len∧(lo.isSome=true→a<len)∧K (Kp lo.isSome l a.toNat b.toNat cap k) s
      | _,_=>False
    | _=>False
  | .NZ x=>match ev f x with
    | .sl _ _=>K (.sl [] .zero) s
    | _=>False
  | .BK k n x lo hi ro=>match ev f x with
    | .ptr l off=>match mf f lo 0,mf f hi n with
      |some a,some b=>0≤a∧a≤b∧b≤n∧match s.read l with
        |some cs=>off+n*k≤cs.length∧
          (if ro then K (.sl (nN k (b.toNat - a.toNat) (cs.drop (off+a.toNat*k))) .any) (s.set l (.ro cs))else a<n∧K (.gK l (off+a.toNat*k) (b.toNat - a.toNat) k) s)
        |none=>False
      | _,_=>False
    | _=>False
  | .yY k n x lo hi=>match ev f x with
    | .ptr l off=>match mf f lo 0,mf f hi n with
      |some a,some b=>0≤a∧a≤b∧b≤n∧match s l with
        |some (.ro cs)=>off+n*k≤cs.length∧K (.sl (nN k (b.toNat - a.toNat) (cs.drop (off+a.toNat*k))) .any) s
        | _=>False
      | _,_=>False
    | _=>False
  | .Io x lo hi=>match ev f x with
    | .v (.string t)=>match mf f lo 0,mf f hi t.size with
      |some a,some b=>0≤a∧a≤b∧b≤t.size∧K (.v (.string (t.extract a.toNat b.toNat))) s
      | _,_=>False
    | _=>False
  | .len x=>match ev f x with
    | .sl xs _=>K (.v (.int .i64 xs.length)) s
    | .gK _ _ n _=>K (.v (.int .i64 n)) s
    | .mb _ n _ _=>K (.v (.int .i64 n)) s
    | _=>False
  | .KI x=>match ev f x with
    | .v (.string t)=>K (.v (.int .i64 t.size)) s
    | _=>False
  | .KJ n=>K (.v (.int .i64 n)) s
  | .bin op x y=>match ev f x,ev f y with
    | .v a,.v b=>match eL op a b with
      |some r=>K (.v r) s
      |none=>False
    | _,_=>False
  | .eqv neg ks x y=>match ev f x,ev f y with
    | .agg cs,.agg ds=>gZ ks cs∧gZ ks ds∧K (.v (.bool (xor neg (AA (.agg cs) (.agg ds))))) s
    | _,_=>False
  | .Lc neg x y=>match ev f x,ev f y with
    | .v (.bool a),.v (.bool b)=>K (.v (.bool (xor neg (a==b)))) s
    | _,_=>False
  | .Ge neg x y=>match ev f x,ev f y with
    | .ptr _ _,.v (.pointer none)=>K (.v (.bool neg)) s
    | .eJ _,.v (.pointer none)=>K (.v (.bool neg)) s
    | .v (.pointer none),.v (.pointer none)=>K (.v (.bool (!neg))) s
    | _,_=>False
  | .un op x=>match ev f x with
    | .v a=>match Es op a with
      |some r=>K (.v r) s
      |none=>False
    | _=>False
  | .jF k x=>match ev f x with
    | .v (.int _ n)=>K (.v (.int k (k.wrap n))) s
    | _=>False
  | .app k bytes x y=>match ev f x,ev f y with
    | .sl xs o,.sl ys _=>(∀e∈xs,e.cells.length=k)∧(∀e∈ys,e.cells.length=k)∧(xs.length+ys.length)*bytes≤140737488355328∧xs.length+ys.length≤9223372036854775807∧
      match o with
      | .buf g c=>s g=some (.buf k xs.length c)∧ ∀g' c',(g'=g∨s g'=none)→K (.sl (xs++ys) (.buf g' c')) ((s.del g).set g' (.buf k (xs.length+ys.length) c'))
      | .any=>False
      | _=>xs= []∧(if ys= []then K (.sl [] o) s else∀g' c',s g'=none→K (.sl ys (.buf g' c')) (s.set g' (.buf k ys.length c')))
    | _,_=>False
  | .bu fn args=>vg P.p fn (args.map (ev f)) s K (up P.k)
  | .ext x i=>match ev f x with
    | .dr vs=>match vs[i]? with
      |some r=>K r s
      |none=>False
    | _=>False
  | .mm mx _ x y=>match ev f x,ev f y with
    | .v (.int k a),.v (.int k' b)=>k=k'∧K (.v (.int k (if mx then max a b else min a b))) s
    | _,_=>False
  | .D9 x=>match ev f x with
    | .sl xs _=>match bytesOf xs with
      |some l=>K (.v (.string ⟨l.toArray⟩)) s
      |none=>False
    | _=>False
  | .zo k bytes z x y=>match ev f x,ev f y with
    | .v (.int _ n),.v (.int _ m)=>n=m∧0≤n∧n≤9223372036854775807∧n*bytes≤281474976710656∧ ∀g,s g=none→K (.mb g n.toNat n.toNat k) (s.set g (.cells (List.replicate n.toNat z).flatten))
    | _,_=>False
  | .Da k x y=>match ev f x,ev f y with
    | .gK l off n k',.sl ys _=>k'=k∧(∀e∈ys,e.cells.length=k)∧match s l with
      |some (.cells cs)=>off+n*k≤cs.length∧K (.v (.int .i64 (min ys.length n))) (s.set l (.cells (putAt cs off (flat (ys.take n)))))
      | _=>False
    | .mb l n _ k',.sl ys _=>k'=k∧(∀e∈ys,e.cells.length=k)∧match s l with
      |some (.cells cs)=>n*k≤cs.length∧K (.v (.int .i64 (min ys.length n))) (s.set l (.cells (putAt cs 0 (flat (ys.take n)))))
      | _=>False
    | _,_=>False
  | .qw k xs=>(∀e∈xs.map (ev f),e.cells.length=k)∧
      (if xs.length=0 then K (.sl [] .zero) s else∀g,s g=none→K (.mb g xs.length xs.length k) (s.set g (.cells (flat (xs.map (ev f))))))
  | .nh k bytes x y=>match Ah s k (ev f y)with
    |some (m,ys)=>match ev f x with
      | .sl xs o=>xs= []∧(o= .nil∨o= .zero)∧m*bytes≤140737488355328∧m≤9223372036854775807∧
        (if m=0 then K (.sl [] o) s else∀g cap sp,s g=none→m≤cap→cap≤maxLen→sp.length=(cap - m)*k→K (.mb g m cap k) (s.set g (.cells (ys++sp))))
      | .mb l n cap k'=>match s l with
        |some (.cells cs)=>k'=k∧cs.length=cap*k∧(n+m)*bytes≤140737488355328∧n+m≤9223372036854775807∧
          (if n+m≤cap then K (.mb l (n+m) cap k) (s.set l (.cells (putAt cs (n*k) ys)))
           else∀g eD sp,s g=none→n+m≤eD→eD≤maxLen→sp.length=(eD -(n+m))*k→K (.mb g (n+m) eD k) (s.set g (.cells (cs.take (n*k)++ys++sp))))
        |some (.sc cs)=>k'=k∧cs.length=cap*k∧(n+m)*bytes≤140737488355328∧n+m≤9223372036854775807∧
          (if n+m≤cap then K (.mb l (n+m) cap k) (s.set l (.sc (putAt cs (n*k) ys)))
           else∀g eD sp,s g=none→n+m≤eD→eD≤maxLen→sp.length=(eD -(n+m))*k→K (.mb g (n+m) eD k) (s.set g (.cells (cs.take (n*k)++ys++sp))))
        | _=>False
      | _=>False
    |none=>False
  | .CN x=>match hU s 1 (ev f x)with
    |some (_,xs)=>match bytesOf xs with
      |some l=>K (.v (.string ⟨l.toArray⟩)) s
      |none=>False
    |none=>False
  | .Ld x=>match ev f x with
    | .v (.string t)=>K (.sl (t.data.toList.map bN) .any) s
    | _=>False
  | .Ei x=>match ev f x with
    | .v (.string t)=>t.size≤140737488355328∧ ∀g cap sp,s g=none→t.size≤cap→cap≤maxLen→sp.length=cap - t.size→K (.mb g t.size cap 1) (s.set g (.sc (t.data.toList.map bN++sp)))
    | _=>False
  | .eU fn first cap=>K (.eU fn (first.map (ev f)) (cap.map (ev f))) s
  | .rn x args=>match ev f x with
    | .eU fn ds cs=>A5 P.p fn=true∧vg P.p fn (ds++args.map (ev f)++cs) s K (up P.k)
    | _=>False
  | .Db t x=>K (.iface t (ev f x)) s
  | .Ej t ok z x=>match ev f x with
    | .iface d y=>if d=t then K (if ok then .dr [y,.v (.bool true)]else y) s else ok=true∧K (.dr [z,.v (.bool false)]) s
    | .v .nilIface=>ok=true∧K (.dr [z,.v (.bool false)]) s
    | _=>False
  | .Lg neg x=>match ev f x with
    | .iface _ _=>K (.v (.bool neg)) s
    | .v .nilIface=>K (.v (.bool (!neg))) s
    | _=>False
  | .KK neg x=>match ev f x with
    | .eU _ _ _=>K (.v (.bool neg)) s
    | .v .nilFunc=>K (.v (.bool (!neg))) s
    | _=>False
  | .CP neg x y=>match ev f x,ev f y with
    | .ptr _ _,.v (.pointer none)=>K (.v (.bool neg)) s
    | .v (.pointer none),.ptr _ _=>K (.v (.bool neg)) s
    | .v (.pointer none),.v (.pointer none)=>K (.v (.bool (!neg))) s
    | .ptr l o,.ptr l' o'=>(zZ s l=true∧zZ s l'=true)∧K (.v (.bool (xor neg (decide (l=l'∧o=o'))))) s
    | _,_=>False
  | .zp x=>match ev f x with
    | .iface t y=>up P.k (.iface t y) s
    | _=>False
  | .Ag x=>match ev f x with
    | .v (.string t)=> ∀l,s l=none→K (.ptr l 0) (s.set l (.it t 0))
    | _=>False
  | .Ek x=>match ev f x with
    | .ptr l off=>off=0∧match s l with
      |some (.it t pos)=>if pos<t.size then K (.dr [.v (.bool true),.v (.int .i64 pos),.v (.int .i32 (Utf8.decode t pos).1)]) (s.set l (.it t (pos+(Utf8.decode t pos).2)))else K (.dr [.v (.bool false)]) s
      | _=>False
    | _=>False
  | .Fx n x y=>match ev f x with
    | .ptr l off=>match s l with
      |some (.cells cs)=>(ev f y).cells.length=n∧off+n≤cs.length∧K (.dr []) (s.set l (.cells (putAt cs off (ev f y).cells)))
      |some (.tc T cs)=>(ev f y).cells.length=n∧off+n≤cs.length∧K (.dr []) (s.set l (.tc T (putAt cs off (ev f y).cells)))
      |some (.sc cs)=>(ev f y).cells.length=n∧off+n≤cs.length∧K (.dr []) (s.set l (.sc (putAt cs off (ev f y).cells)))
      | _=>False
    | _=>False
  | .A4 T zero=> ∀l,s l=none→K (.ptr l 0) (s.set l (.tc T zero))
  | .zq=> ∀l,s l=none→K (.qS l) (s.set l (.mp [] 0))
  | .BR ok rs z x k=>match ev f x,ev f k with
    | .qS l,.agg cs=>match s l with
      |some (.mp us _)=>gZ rs cs∧Fv rs us∧(match kx us (.agg cs) 0 with
        |some (_,v)=>K (if ok then .dr [v,.v (.bool true)]else v) s
        |none=>K (if ok then .dr [z,.v (.bool false)]else z) s)
      | _=>False
    | _,_=>False
  | .BS rs x k v=>match ev f x,ev f k with
    | .qS l,.agg cs=>match s l with
      |some (.mp us clock)=>gZ rs cs∧Fv rs us∧K (.dr []) (s.set l (.mp (Af us (.agg cs) (ev f v) clock).1 (Af us (.agg cs) (ev f v) clock).2))
      | _=>False
    | _,_=>False
  | .El rs z x k=>match ev f x,ev f k with
    | .qS l,.agg cs=>match s l with
      |some (.mp us clock)=>gZ rs cs∧Fv rs us∧K (.dr [(uu us (.agg cs) z clock).1,.v (.int .i64 ((uu us (.agg cs) z clock).2.1:Nat))]) (s.set l (.mp (uu us (.agg cs) z clock).2.2.1 (uu us (.agg cs) z clock).2.2.2))
      | _=>False
    | _,_=>False
  | .Et x i v=>match ev f x,ev f i with
    | .qS l,.v (.int _ b)=>match s l with
      |some (.mp us clock)=>match FC us b with
        |some j=>K (.dr []) (s.set l (.mp (us.modify j fun u=>(u.1,ev f v,u.2.2)) clock))
        |none=>False
      | _=>False
    | _,_=>False
  | .Em e x y=>match Ah s 1 (ev f y)with
    |some (m,ys)=>match ev f x with
      | .sl xs o=>xs= []∧(o= .nil∨o= .zero)∧m≤140737488355328∧
        (if m=0 then K (.sl [] o) s else∀g cap sp,s g=none→m≤cap→cap≤maxLen→sp.length=(cap - m)*1→K (.mb g m cap 1) (s.set g (.tc e (ys++sp))))
      | .mb l n cap k'=>match s l with
        |some (.tc T cs)=>T=e∧k'=1∧cs.length=cap*1∧n+m≤140737488355328∧
          (if n+m≤cap then K (.mb l (n+m) cap 1) (s.set l (.tc T (putAt cs (n*1) ys)))
           else∀g eD sp,s g=none→n+m≤eD→eD≤maxLen→sp.length=(eD -(n+m))*1→K (.mb g (n+m) eD 1) (s.set g (.tc e (cs.take (n*1)++ys++sp))))
        | _=>False
      | _=>False
    |none=>False
  | .BT x=>match ev f x with
    | .ptr l off=>match s.read l with
      |some cs=>off<cs.length∧K (.ptr l off) s
      |none=>False
    | _=>False
  | .BU T n x=>match ev f x with
    | .ptr l off=>off=0∧match s l with
      |some (.tc T' cs)=>T'=T∧cs.length=n∧K (.ptr l off) s
      | _=>False
    | _=>False
  | .KL x=>match ev f x with
    | .sl xs o=>xs= []∧o= .nil∧K (.v (.pointer none)) s
    | .mb l _ cap _=>0<cap∧K (.ptr l 0) s
    | _=>False
  | .En e x y=>match ev f x,ev f y with
    | .v (.pointer none),.v (.int k n)=>k= .i64∧n=0∧K (.v (.string ⟨#[]⟩)) s
    | .ptr l off,.v (.int k n)=>k= .i64∧off=0∧0<n∧match s l with
      |some (.tc T cs)=>T=e∧n≤cs.length∧n≤9223372036854775807∧match bytesOf (cs.take n.toNat)with
        |some bs=>K (.v (.string ⟨bs.toArray⟩)) (s.del l)
        |none=>False
      | _=>False
    | _,_=>False
  | .wX neg x=>match ev f x with
    | .sl xs o=>match o with
      | .nil=>K (.v (.bool (!neg))) s
      | .buf _ _=>K (.v (.bool neg)) s
      | _=>(xs= []→K (.v (.bool (!neg))) s)∧K (.v (.bool neg)) s
    | .mb _ _ _ _=>K (.v (.bool neg)) s
    | _=>False
  | .wS x=>match Ip (ev f x)with
    |some r=>K r s
    |none=>False
  | .gu k x lo hi mx=>match KM f k (ev f x) lo hi mx with
    |some r=>K r s
    |none=>False
  | .AB k z x=>match Ai k z (ev f x) s with
    |some s'=>K (.dr []) s'
    |none=>False
  | .pD k x y=>match CQ k (ev f x) (ev f y) s with
    |some (r,s')=>K r s'
    |none=>False
  | .zr x y=>match Aj (ev f x) (ev f y) s with
    |some r=>K r s
    |none=>False
  | .yZ k bytes z x y=>match ev f x,ev f y with
    | .mb l n cap k',.v (.int .i64 m)=>match s.read l with
      |some cs=>k'=k∧cs.length=cap*k∧0≤m∧cap<n+m.toNat∧(n+m.toNat)*bytes≤140737488355328∧n+m.toNat≤9223372036854775807∧
        ∀g eD sp,s g=none→n+m.toNat≤eD→eD≤maxLen→sp.length=(eD -(n+m.toNat))*k→K (.mb g (n+m.toNat) eD k) (s.set g (.cells (cs.take (n*k)++(List.replicate m.toNat z).flatten++sp)))
      |none=>False
    | .sl xs o,.v (.int .i64 m)=>xs= []∧o= .nil∧0<m∧m.toNat*bytes≤140737488355328∧m≤9223372036854775807∧
        ∀g eD sp,s g=none→m.toNat≤eD→eD≤maxLen→sp.length=(eD - m.toNat)*k→K (.mb g m.toNat eD k) (s.set g (.cells ((List.replicate m.toNat z).flatten++sp)))
    | _,_=>False
theorem Qm {f:Fr}{Kc Kc':List AV→Prop} (h: ∀cs,Kc cs→Kc' cs): ∀(parts:List (Nat×Nat×Operand)) (cells:List AV),yU f cells parts Kc→yU f cells parts Kc'
 | [],cells,hh=>h _ hh
 |(_,_,_)::r,_,hh=>⟨hh.1,hh.2.1,Qm h r _ hh.2.2⟩
theorem ZX {P:Ctx}{op:iu}{f:Fr}{s:Hp}{K K':AV→Hp→Prop} (hk: ∀r s',K r s'→K' r s') (h:G P op f s K):G P op f s K':=by
 cases op<;>simp only[G]at h⊢
 case bu fn args=>exact h.mono hk (fun _ _ h=>h)
 case wS x=>split at h;(exact hk _ _ h);(exact h.elim)
 case gu=>split at h;(exact hk _ _ h);(exact h.elim)
 case AB=>split at h;(exact hk _ _ h);(exact h.elim)
 case pD=>split at h;(exact hk _ _ h);(exact h.elim)
 case zr=>split at h;(exact hk _ _ h);(exact h.elim)
 case yZ k bytes z x y=>
  split at h
  ·split at h
   ·exact⟨h.1,h.2.1,h.2.2.1,h.2.2.2.1,h.2.2.2.2.1,h.2.2.2.2.2.1,fun g cap sp h1 h2 h3 h4=>hk _ _ (h.2.2.2.2.2.2 g cap sp h1 h2 h3 h4)⟩
   ·exact h.elim
  ·exact⟨h.1,h.2.1,h.2.2.1,h.2.2.2.1,h.2.2.2.2.1,fun g cap sp h1 h2 h3 h4=>hk _ _ (h.2.2.2.2.2 g cap sp h1 h2 h3 h4)⟩
  ·exact h.elim
 case rn x args=>split at h;(exact⟨h.1,h.2.mono hk (fun _ _ h=>h)⟩);(exact h.elim)
 case Ei=>split at h;(exact⟨h.1,fun g cap sp h1 h2 h3 h4=>hk _ _ (h.2 g cap sp h1 h2 h3 h4)⟩);(exact h.elim)
 case zp=>exact h
 case Ag=>split at h;(exact fun l hl=>hk _ _ (h l hl));(exact h.elim)
 case A4=>exact fun l hl=>hk _ _ (h l hl)
 case zq=>exact fun l hl=>hk _ _ (h l hl)
 case BR ok rs z x k=>
  split at h
  case h_2=>exact h.elim
  split at h
  case h_2=>exact h.elim
  refine⟨h.1,h.2.1,?_⟩
  have h2:=h.2.2
  split at h2
  ·exact hk _ _ h2
  ·exact hk _ _ h2
 case BS rs x k v=>
  split at h
  case h_2=>exact h.elim
  split at h
  case h_2=>exact h.elim
  exact⟨h.1,h.2.1,hk _ _ h.2.2⟩
 case El rs z x k=>
  split at h
  case h_2=>exact h.elim
  split at h
  case h_2=>exact h.elim
  exact⟨h.1,h.2.1,hk _ _ h.2.2⟩
 case Et x i v=>
  split at h
  case h_2=>exact h.elim
  split at h
  case h_2=>exact h.elim
  split at h
  ·exact hk _ _ h
  ·exact h.elim
 case Ej t ok z x=>
  split at h
  ·split
   ·next hd=>rw[if_pos hd]at h;exact hk _ _ h
   ·next hd=>rw[if_neg hd]at h;exact⟨h.1,hk _ _ h.2⟩
  ·exact⟨h.1,hk _ _ h.2⟩
  ·exact h.elim
 case Ek x=>
  split at h
  case h_2=>exact h.elim
  refine⟨h.1,?_⟩
  have h2:=h.2
  split at h2
  case h_2=>exact h2.elim
  split
  ·next hp=>rw[if_pos hp]at h2;exact hk _ _ h2
  ·next hp=>rw[if_neg hp]at h2;exact hk _ _ h2
 case Em e x y=>
  split at h
  case h_2=>exact h.elim
  split at h
  ·refine⟨h.1,h.2.1,h.2.2.1,?_⟩
   have h3:=h.2.2.2
   split
   ·next hn=>rw[if_pos hn]at h3;exact hk _ _ h3
   ·next hn=>rw[if_neg hn]at h3;exact fun g cap sp h1 h2 h4 h5=>hk _ _ (h3 g cap sp h1 h2 h4 h5)
  ·split at h
   case h_2=>exact h.elim
   refine⟨h.1,h.2.1,h.2.2.1,h.2.2.2.1,?_⟩
   have h3:=h.2.2.2.2
   split
   ·next hn=>rw[if_pos hn]at h3;exact hk _ _ h3
   ·next hn=>rw[if_neg hn]at h3;exact fun g cap sp h1 h2 h4 h5=>hk _ _ (h3 g cap sp h1 h2 h4 h5)
  ·exact h.elim
 case BT x=>(repeat' split at h)<;>first|exact h.elim|exact⟨h.1,hk _ _ h.2⟩
 case BU T n x=>
  split at h
  case h_2=>exact h.elim
  refine⟨h.1,?_⟩
  have h2:=h.2
  split at h2
  ·exact⟨h2.1,h2.2.1,hk _ _ h2.2.2⟩
  ·exact h2.elim
 case En e x y=>
  split at h
  ·exact⟨h.1,h.2.1,hk _ _ h.2.2⟩
  ·refine⟨h.1,h.2.1,h.2.2.1,?_⟩
   have h3:=h.2.2.2
   split at h3
   case h_2=>exact h3.elim
   refine⟨h3.1,h3.2.1,h3.2.2.1,?_⟩
   have h4:=h3.2.2.2
   split at h4
   ·exact hk _ _ h4
   ·exact h4.elim
  ·exact h.elim
 case pick=>split at h;(exact hk _ _ h);(exact h.elim)
 case gf zero parts=>exact Qm (fun _ h=>hk _ _ h) _ _ h
 case alloc=>exact fun l hl=>hk _ _ (h l hl)
 case box=>exact⟨h.1,fun l hl=>hk _ _ (h.2 l hl)⟩
 case yX=>exact⟨h.1,fun l hl=>hk _ _ (h.2 l hl)⟩
 case zo=>split at h;(exact⟨h.1,h.2.1,h.2.2.1,h.2.2.2.1,fun l hl=>hk _ _ (h.2.2.2.2 l hl)⟩);(exact h.elim)
 case mm=>split at h;(exact⟨h.1,hk _ _ h.2⟩);(exact h.elim)
 case yY k n x lo hi=>
  (repeat' split at h)<;>first
   |exact h.elim
   |exact⟨h.1,h.2.1,h.2.2.1,h.2.2.2.1,hk _ _ h.2.2.2.2⟩
   |exact h.2.2.2.elim
 case Da k x y=>
  (repeat' split at h)<;>first
   |exact h.elim
   |exact⟨h.1,h.2.1,h.2.2.1,hk _ _ h.2.2.2⟩
   |exact h.2.2.elim
 case wX neg x=>
  split at h
  ·split at h
   ·exact hk _ _ h
   ·exact hk _ _ h
   ·exact⟨fun hx=>hk _ _ (h.1 hx),hk _ _ h.2⟩
  ·exact hk _ _ h
  ·exact h.elim
 case qw=>refine⟨h.1,?_⟩;split;(next hn=>simp only[hn,if_true]at h;exact hk _ _ h.2);(next hn=>simp only[hn,if_false]at h;exact fun g hg=>hk _ _ (h.2 g hg))
 case nh k bytes x y=>
  split at h
  case h_2=>exact h.elim
  split at h
  ·refine⟨h.1,h.2.1,h.2.2.1,h.2.2.2.1,?_⟩
   have h3:=h.2.2.2.2
   split
   ·next hn=>rw[if_pos hn]at h3;exact hk _ _ h3
   ·next hn=>rw[if_neg hn]at h3;exact fun g cap sp h1 h2 h4 h5=>hk _ _ (h3 g cap sp h1 h2 h4 h5)
  ·split at h
   case h_3=>exact h.elim
   all_goals
    refine⟨h.1,h.2.1,h.2.2.1,h.2.2.2.1,?_⟩
    have h3:=h.2.2.2.2
    split
    ·next hn=>rw[if_pos hn]at h3;exact hk _ _ h3
    ·next hn=>rw[if_neg hn]at h3;exact fun g cap sp h1 h2 h4 h5=>hk _ _ (h3 g cap sp h1 h2 h4 h5)
  ·exact h.elim
 case gL=>refine⟨h.1,?_⟩;split;(next hn=>simp only[hn,if_true]at h;exact hk _ _ h.2);(next hn=>simp only[hn,if_false]at h;exact fun g hg=>hk _ _ (h.2 g hg))
 case app k bytes x y=>
  split at h<;>try exact h.elim
  rename_i xs o ys o' _ _
  refine⟨h.1,h.2.1,h.2.2.1,h.2.2.2.1,?_⟩
  have h3:=h.2.2.2.2
  cases o<;>simp only at h3⊢
  case nil=>refine⟨h3.1,?_⟩;split;(next hn=>simp only[hn,if_true]at h3;exact hk _ _ h3.2);(next hn=>simp only[hn,if_false]at h3;exact fun g c hg=>hk _ _ (h3.2 g c hg))
  case zero=>refine⟨h3.1,?_⟩;split;(next hn=>simp only[hn,if_true]at h3;exact hk _ _ h3.2);(next hn=>simp only[hn,if_false]at h3;exact fun g c hg=>hk _ _ (h3.2 g c hg))
  case buf=>exact⟨h3.1,fun g c hg=>hk _ _ (h3.2 g c hg)⟩
 case BK k n x lo hi ro=>
  (repeat' split at h)<;>first
   |exact h.elim
   |(rename_i lh;exact⟨h.1,h.2.1,h.2.2.1,h.2.2.2.1,by rw[if_pos lh];exact hk _ _ h.2.2.2.2⟩)
   |(rename_i lh;exact⟨h.1,h.2.1,h.2.2.1,h.2.2.2.1,by rw[if_neg lh];exact⟨h.2.2.2.2.1,hk _ _ h.2.2.2.2.2⟩⟩)
   |exact h.2.2.2.elim
 case kA k x i=>
  split at h
  ·refine⟨h.1,?_⟩
   have h2:=h.2
   split at h2
   ·exact⟨h2.1,hk _ _ h2.2⟩
   ·exact h2.elim
  ·exact⟨h.1,h.2.1,h.2.2.1,hk _ _ h.2.2.2⟩
  ·exact⟨h.1,h.2.1,h.2.2.1,hk _ _ h.2.2.2⟩
  ·exact h.elim
 case CM x i=>
  split at h
  ·refine⟨h.1,?_⟩
   have h2:=h.2
   split at h2
   ·exact hk _ _ h2
   ·exact h2.elim
  ·exact h.elim
 all_goals
  (repeat' split at h)<;>first
   |exact h.elim
   |exact hk _ _ h
   |exact⟨h.1,hk _ _ h.2⟩
   |exact⟨h.1,h.2.1,hk _ _ h.2.2⟩
   |exact⟨h.1,h.2.1,h.2.2.1,hk _ _ h.2.2.2⟩
   |exact⟨h.1,h.2.1,h.2.2.1,h.2.2.2.1,hk _ _ h.2.2.2.2⟩
   |exact⟨h.1,h.2.1,h.2.2.1,h.2.2.2.1,h.2.2.2.2.1,hk _ _ h.2.2.2.2.2⟩
def pE:List CK→List Value→Prop
 | [],[]=>True
 |k::ks,x::xs=>k.fit x∧pE ks xs
 | _,_=>False
def I8 (P:Program) (g:TypeId→Option (List CK)):List Field→Nat→Option (List CK)
 | [],_=>some []
 |f::fs,off=>
  if f.offset=off∧f.name≠ "_" then
   match g f.type,I8 P g fs (off+P.cellsOf f.type)with
   |some l,some r=>if P.cellsOf f.type=l.length∧(P.info? f.type).isSome then some (l++r)else none
   | _,_=>none
  else none
def tA (P:Program):Nat→TypeId→Option (List CK)
 |0,_=>none
 |d+1,t=>
  match P.underlying t with
  |some (.int k)=>some [.int k]
  |some .bool=>some [.bool]
  |some .string=>some [.str]
  |some (.array n e)=>match tA P d e with
   |some l=>if P.cellsOf e=l.length∧(P.info? e).isSome then some (List.replicate n l).flatten else none
   |none=>none
  |some (.struct fs)=>if P.stoodInHeld t then none else I8 P (tA P d) fs.toList 0
  | _=>none
theorem Bq: ∀ {ks:List CK}{xs:List Value},pE ks xs→xs.length=ks.length
 | [],[],_=>rfl
 | _:: _,_:: _,h=>by simp[Bq h.2]
theorem Ff: ∀ {ks ls:List CK}{xs:List Value},pE (ks++ls) xs→pE ks (xs.take ks.length)∧pE ls (xs.drop ks.length)
 | [],_,_,h=>by simp[pE];simpa using h
 | _:: _,_,[],h=>by simp[pE]at h
 | _:: _,_,_:: _,h=>by
  obtain⟨h1,h2⟩:=h
  obtain⟨h3,h4⟩:=Ff h2
  exact⟨⟨h1,h3⟩,h4⟩
section
variable {P:Program}
def IJ (P:Program) (d:Nat) (t:TypeId) (ks:List CK):Prop:=
 ∀(D:Nat) (w:World) (xs ys:Array Value) (off:Nat),pE ks ((xs.toList.drop off).take ks.length)→pE ks ((ys.toList.drop off).take ks.length)→
  ∃a b r,(part t xs off).run P w= .ok a w∧(part t ys off).run P w= .ok b w∧(Op.equalIn (D+d) t a b).run P w= .ok r w∧
   (r=true↔(xs.toList.drop off).take ks.length=(ys.toList.drop off).take ks.length)
theorem Qy {t:TypeId}{d:TypeDesc} (h:P.underlying t=some d) (w:World):(isAgg t).run P w= .ok d.isRow w:=by
 unfold isAgg
 rw[Sem.run_bind,run_underlying h w]
 cases d<;>rfl
theorem Bu {t:TypeId}{d:TypeDesc} (h:P.underlying t=some d) (hd:d.isRow=true) {i:TypeInfo} (hi:P.info? t=some i) (xs:Array Value) (off:Nat) (w:World):
  (part t xs off).run P w= .ok (.agg (xs.extract off (off+i.size))) w:=by
 simp[part,Qy h,hd,sizeOf,typeInfo,hi]
theorem DY {t:TypeId}{d:TypeDesc} (h:P.underlying t=some d) (hd:d.isRow=false) (xs:Array Value) (off:Nat) (x:Value) (hx:xs[off]? =some x) (w:World):
  (part t xs off).run P w= .ok x w:=by
 simp[part,Qy h,hd,hx]
theorem Fo {xs:Array Value}{off:Nat}{k:CK} (h:pE [k] ((xs.toList.drop off).take 1)): ∃x,xs[off]? =some x∧k.fit x∧(xs.toList.drop off).take 1= [x]:=by
 cases hx:(xs.toList.drop off)with
 |nil=>simp[hx,pE]at h
 |cons x r=>
  refine⟨x,?_,?_,by simp⟩
  ·have:(xs.toList.drop off)[0]? =some x:=by simp[hx]
   simpa using this
  ·rw[hx]at h;exact h.1
theorem a3R (a b:ByteArray):a.toList=b.toList↔a=b:=by
 constructor
 ·intro h
  rw[ByteArray.toList_eq,ByteArray.toList_eq]at h
  cases a;cases b
  simp only[ByteArray.mk.injEq]
  exact Array.toList_inj.1 h
 ·rintro rfl;rfl
theorem a97 {d:Nat}{t:TypeId}{k:IntKind} (h:P.underlying t=some (.int k)):IJ P (d+1) t [.int k]:=by
 intro D w xs ys off hx hy
 obtain⟨x,gW,jG,zu⟩:=Fo hx
 obtain⟨y,vR,vS,Lh⟩:=Fo hy
 rw[List.length_singleton,zu,Lh,show D+(d+1)=(D+d)+1 by omega]
 cases x<;>first|exact jG.elim|skip
 cases y<;>first|exact vS.elim|skip
 simp only[CK.fit]at jG vS
 subst jG;subst vS
 exact⟨_,_,_,DY h rfl _ _ _ gW w,DY h rfl _ _ _ vR w,run_equalIn_int w _ t _ _ _ _ h,by simp⟩
theorem a7s {d:Nat}{t:TypeId} (h:P.underlying t=some .bool):IJ P (d+1) t [.bool]:=by
 intro D w xs ys off hx hy
 obtain⟨x,gW,jG,zu⟩:=Fo hx
 obtain⟨y,vR,vS,Lh⟩:=Fo hy
 rw[List.length_singleton,zu,Lh,show D+(d+1)=(D+d)+1 by omega]
 cases x<;>first|exact jG.elim|skip
 cases y<;>first|exact vS.elim|skip
 exact⟨_,_,_,DY h rfl _ _ _ gW w,DY h rfl _ _ _ vR w,run_equalIn_bool' w _ t _ _ h,by simp⟩
theorem a98 {d:Nat}{t:TypeId} (h:P.underlying t=some .string):IJ P (d+1) t [.str]:=by
 intro D w xs ys off hx hy
 obtain⟨x,gW,jG,zu⟩:=Fo hx
 obtain⟨y,vR,vS,Lh⟩:=Fo hy
 rw[List.length_singleton,zu,Lh,show D+(d+1)=(D+d)+1 by omega]
 cases x<;>first|exact jG.elim|skip
 cases y<;>first|exact vS.elim|skip
 exact⟨_,_,_,DY h rfl _ _ _ gW w,DY h rfl _ _ _ vR w,run_equalIn_string w _ t _ _ h,by rw[beq_iff_eq,a3R];simp⟩
theorem Xt {d:Nat}{e:TypeId}{l:List CK} (h:IJ P d e l) (fK:P.cellsOf e=l.length) (D:Nat) (w:World) (xs ys:Array Value): ∀(n i:Nat),
  pE (List.replicate n l).flatten ((xs.toList.drop (i*l.length)).take (List.replicate n l).flatten.length)→pE (List.replicate n l).flatten ((ys.toList.drop (i*l.length)).take (List.replicate n l).flatten.length)→
  ∃r,(Op.eqItems (D+d) e (P.cellsOf e) xs ys (List.range' i n)).run P w= .ok r w∧
   (r=true↔(xs.toList.drop (i*l.length)).take (List.replicate n l).flatten.length=(ys.toList.drop (i*l.length)).take (List.replicate n l).flatten.length)
 |0,i,_,_=>⟨true,by simp[Op.eqItems],by simp⟩
 |n+1,i,hx,hy=>by
  simp only[List.replicate_succ,List.flatten_cons]at hx hy⊢
  obtain⟨gW,jG⟩:=Ff hx
  obtain⟨vR,vS⟩:=Ff hy
  have CR:min l.length (l++(List.replicate n l).flatten).length=l.length:=by simp
  have dm:(l++(List.replicate n l).flatten).length - l.length=(List.replicate n l).flatten.length:=by simp
  rw[List.take_take,CR]at gW vR
  rw[List.drop_take,List.drop_drop,dm,show i*l.length+l.length=(i+1)*l.length by rw[Nat.add_mul,Nat.one_mul]]at jG vS
  obtain⟨a,b,r,p1,p2,p3,hr⟩:=h D w xs ys (i*l.length) gW vR
  obtain⟨r',q,qA⟩:=Xt h fK D w xs ys n (i+1) jG vS
  have Kj: ∀zs:List Value,zs.take (l++(List.replicate n l).flatten).length=zs.take l.length++(zs.drop l.length).take (List.replicate n l).flatten.length:=fun zs=>by
   rw[List.length_append,List.take_add]
  rw[List.range'_succ]
  rw[←fK]at p1 p2
  simp only[Op.eqItems,Sem.run_bind,p1,p2,p3,Result.andThen_ok]
  have tH:((xs.toList.drop (i*l.length)).take (l++(List.replicate n l).flatten).length=(ys.toList.drop (i*l.length)).take (l++(List.replicate n l).flatten).length)↔(r=true∧r'=true):=by
   rw[Kj,Kj,List.drop_drop,List.drop_drop,show i*l.length+l.length=(i+1)*l.length by rw[Nat.add_mul,Nat.one_mul],hr,qA]
   constructor
   ·intro hh
    exact List.append_inj hh (by rw[Bq gW,Bq vR])
   ·rintro ⟨h1,h2⟩;rw[h1,h2]
  cases r
  ·exact⟨false,by simp,by rw[tH];simp⟩
  ·exact⟨r',by simpa using q,by rw[tH];simp⟩
theorem WT {d:Nat}{g:TypeId→Option (List CK)} (h: ∀t l,g t=some l→P.cellsOf t=l.length→(P.info? t).isSome→IJ P d t l) (D:Nat) (w:World) (xs ys:Array Value): ∀(fs:List Field) (off:Nat) (ks:List CK),
  I8 P g fs off=some ks→pE ks ((xs.toList.drop off).take ks.length)→pE ks ((ys.toList.drop off).take ks.length)→
  ∃r,(Op.eqFields (D+d) xs ys fs).run P w= .ok r w∧(r=true↔(xs.toList.drop off).take ks.length=(ys.toList.drop off).take ks.length)
 | [],off,ks,hk,_,_=>by
  simp[I8]at hk;subst hk
  exact⟨true,by simp[Op.eqFields],by simp⟩
 |f::fs,off,ks,hk,hx,hy=>by
  simp only[I8]at hk
  split at hk
  case isFalse=>cases hk
  rename_i hf
  split at hk
  case h_2=>cases hk
  rename_i l r hl hr
  split at hk
  case isFalse=>cases hk
  rename_i hc
  obtain rfl:=Option.some.inj hk
  obtain⟨gW,jG⟩:=Ff hx
  obtain⟨vR,vS⟩:=Ff hy
  have CR:min l.length (l++r).length=l.length:=by simp
  have dm:(l++r).length - l.length=r.length:=by simp
  rw[List.take_take,CR]at gW vR
  rw[List.drop_take,List.drop_drop,dm,←hc.1]at jG vS
  obtain⟨a,b,r1,p1,p2,p3,zv⟩:=h _ _ hl hc.1 hc.2 D w xs ys off gW vR
  obtain⟨r2,q,qB⟩:=WT h D w xs ys fs _ _ hr jG vS
  have Kj: ∀zs:List Value,zs.take (l++r).length=zs.take l.length++(zs.drop l.length).take r.length:=fun zs=>by
   rw[List.length_append,List.take_add]
  rw[←hf.1]at p1 p2
  simp only[Op.eqFields,if_pos hf.2,Sem.run_bind,p1,p2,p3,Result.andThen_ok]
  have tH:((xs.toList.drop off).take (l++r).length=(ys.toList.drop off).take (l++r).length)↔(r1=true∧r2=true):=by
   rw[Kj,Kj,List.drop_drop,List.drop_drop,zv,qB,hc.1]
   constructor
   ·intro hh
    exact List.append_inj hh (by rw[Bq gW,Bq vR])
   ·rintro ⟨h1,h2⟩;rw[h1,h2]
  cases r1
  ·exact⟨false,by simp,by rw[tH];simp⟩
  ·exact⟨r2,by simpa using q,by rw[tH];simp⟩
theorem K2 (xs:Array Value) (off n:Nat):(xs.extract off (off+n)).toList=(xs.toList.drop off).take n:=by
 rw[Array.toList_extract]
 simp[List.extract]
theorem MD: ∀(d:Nat) (t:TypeId) (ks:List CK),tA P d t=some ks→P.cellsOf t=ks.length→(P.info? t).isSome→IJ P d t ks
 |0,t,ks,h,_,_=>by simp[tA]at h
 |d+1,t,ks,h,fK,dP=>by
  simp only[tA]at h
  cases hu:P.underlying t with
  |none=>simp[hu]at h
  |some desc=>
   simp only[hu]at h
   cases desc<;>simp only[]at h<;>first
    |(cases h;done)
    |skip
   case int k=>obtain rfl:=Option.some.inj h;exact a97 hu
   case bool=>obtain rfl:=Option.some.inj h;exact a7s hu
   case string=>obtain rfl:=Option.some.inj h;exact a98 hu
   case array n e=>
    split at h
    case h_2=>cases h
    rename_i l hl
    split at h
    case isFalse=>cases h
    rename_i hc
    obtain rfl:=Option.some.inj h
    have ih:=MD d e l hl hc.1 hc.2
    obtain⟨i,hi⟩:=Option.isSome_iff_exists.1 dP
    obtain⟨ie,IK⟩:=Option.isSome_iff_exists.1 hc.2
    have hs:i.size=(List.replicate n l).flatten.length:=by simpa[Program.cellsOf,hi] using fK
    intro D w xs ys off hx hy
    have key:=Xt ih hc.1 D w (xs.extract off (off+i.size)) (ys.extract off (off+i.size)) n 0
    simp only[Nat.zero_mul,List.drop_zero,K2,hs]at key
    rw[List.take_take,Nat.min_self,List.take_take,Nat.min_self]at key
    obtain⟨r,hr,KN⟩:=key hx hy
    refine⟨_,_,r,Bu hu rfl hi xs off w,Bu hu rfl hi ys off w,?_,KN⟩
    rw[show D+(d+1)=(D+d)+1 by omega,run_equalIn_array w (D+d) _ _ hu IK,List.range_eq_range',hs]
    exact hr
   case struct fs=>
    split at h
    case isTrue=>cases h
    rename_i dT
    obtain⟨i,hi⟩:=Option.isSome_iff_exists.1 dP
    have hs:i.size=ks.length:=by simpa[Program.cellsOf,hi] using fK
    have hfo:P.fieldsOf t=fs:=by simp[Program.fieldsOf,hu]
    intro D w xs ys off hx hy
    have key: ∀(xs ys:Array Value),pE ks ((xs.toList.drop 0).take ks.length)→pE ks ((ys.toList.drop 0).take ks.length)→
      ∃r,(Op.eqFields (D+d) xs ys fs.toList).run P w= .ok r w∧(r=true↔(xs.toList.drop 0).take ks.length=(ys.toList.drop 0).take ks.length):=fun xs ys hx hy=>
     WT (fun t l h1 h2 h3=>MD d t l h1 h2 h3) D w xs ys fs.toList 0 ks h hx hy
    have k2:=key (xs.extract off (off+i.size)) (ys.extract off (off+i.size))
    simp only[List.drop_zero,K2,hs]at k2
    rw[List.take_take,Nat.min_self,List.take_take,Nat.min_self]at k2
    obtain⟨r,hr,KN⟩:=k2 hx hy
    refine⟨_,_,r,Bu hu rfl hi xs off w,Bu hu rfl hi ys off w,?_,KN⟩
    rw[show D+(d+1)=(D+d)+1 by omega,run_equalIn_struct w (D+d) t _ _ (by rw[hfo];exact hu) (by simpa using dT),hfo,hs]
    exact hr
end
def uY (rs:List (Nat×CK)):List CK:=rs.flatMap fun p=>List.replicate p.1 p.2
def By:List CK→List (Nat×CK)
 | []=> []
 |k::ks=>match By ks with
  |(n,k')::r=>if k=k' then(n+1,k')::r else(1,k)::(n,k')::r
  | []=> [(1,k)]
theorem ME: ∀ks:List CK,uY (By ks)=ks
 | []=>rfl
 |k::ks=>by
  have ih:=ME ks
  simp only[By]
  split
  ·rename_i n k' r h
   rw[h]at ih
   split
   ·rename_i hk;subst hk;simp[uY,List.replicate_succ]at ih⊢;exact ih
   ·simp[uY]at ih⊢;exact ih
  ·rename_i h
   rw[h]at ih
   simp[uY]at ih⊢;exact ih
theorem DU {H:PH}: ∀(rs:List (Nat×CK)) (cs:List AV) (vs:List Value),gZ rs cs→vs.length=cs.length→(∀(j:Nat) (x:Value) (u:AV),vs[j]? =some x→cs[j]? =some u→RV H x u)→
  pE (uY rs) vs∧cs=vs.map AV.v
 | [],cs,vs,h,hl,_=>by
  simp only[gZ]at h;subst h
  have:vs= []:=List.eq_nil_of_length_eq_zero (by simpa using hl)
  subst this;exact⟨trivial,rfl⟩
 |(n,k)::rs,cs,vs,h,hl,hr=>by
  obtain⟨h1,h2,h3⟩:=h
  obtain⟨ih1,Tv⟩:=DU rs (cs.drop n) (vs.drop n) h3 (by simp[hl]) (fun j x u hx hu=>hr (n+j) x u (by simpa using hx) (by simpa using hu))
  have key: ∀(m:Nat) (cs:List AV) (vs:List Value),vs.length=cs.length→cs.length=m→(∀c∈cs,k.a0N c)→(∀(j:Nat) (x:Value) (u:AV),vs[j]? =some x→cs[j]? =some u→RV H x u)→
    (∀zs ls,pE ls zs→pE (List.replicate m k++ls) (vs++zs))∧cs=vs.map AV.v:=by
   intro m
   induction m with
   |zero=>
    intro cs vs hl hm _ _
    have e1:cs= []:=List.eq_nil_of_length_eq_zero hm
    subst e1
    have e2:vs= []:=List.eq_nil_of_length_eq_zero (by simpa using hl)
    subst e2
    exact⟨fun zs ls h=>h,rfl⟩
   |succ m ih=>
    intro cs vs hl hm hf hr
    match cs,vs,hl,hm with
    |c::cs,v::vs,hl,hm=>
     obtain⟨a1,a2⟩:=ih cs vs (by simpa using hl) (by simpa using hm) (fun c hc=>hf c (List.mem_cons_of_mem _ hc)) (fun j x u hx hu=>hr (j+1) x u (by simpa using hx) (by simpa using hu))
     have hc:=hf c List.mem_cons_self
     have hv:=hr 0 v c rfl rfl
     have Li:c= .v v∧k.fit v:=by
      cases c<;>first
       |(cases k<;>exact hc.elim)
       |skip
      cases hv
      refine⟨rfl,?_⟩
      cases k<;>cases v<;>first|exact hc|exact hc.elim
     refine⟨fun zs ls h=>⟨Li.2,a1 zs ls h⟩,by rw[Li.1,a2];rfl⟩
  obtain⟨k1,k2⟩:=key n (cs.take n) (vs.take n) (by simp[hl]) (by simp[h1]) h2 (fun j x u hx hu=>by
   rw[List.getElem?_take]at hx hu
   split at hx
   ·rename_i hj;rw[if_pos hj]at hu;exact hr j x u hx hu
   ·cases hx)
  refine⟨?_,?_⟩
  ·have:=k1 (vs.drop n) (uY rs) ih1
   rw[List.take_append_drop]at this
   simpa[uY] using this
  ·have e:=List.take_append_drop n cs
   rw[←e,k2,Tv,←List.map_append,List.take_append_drop]
def eB (P:Program) (kp:AV→Hp→Prop) (o:Oper) (a:Act) (w:World) (H:PH) (s:Hp) (K:AV→Hp→Prop):Prop:=
 ∀Q:Exit→Act→World→Prop,(∀v r H' s' w',Step H s w H' s' w'→RV H' v r→up kp r s'→Q (.panic [{v,recovered:=false}]) a w')→o.wp P a w (fun a' w'=> ∃v H' s' r,a'=a.put o.dst v∧Step H s w H' s' w'∧RV H' v r∧K r s') Q
section
variable {P:Program}{kp:AV→Hp→Prop}{o:Oper}{a:Act}{w:World}{H:PH}{s:Hp}{K:AV→Hp→Prop}{f:Fr}
theorem eB.value {v:Value}{w':World}{H':PH}{s':Hp}{r:AV} (eG:(execOp a.eval o).run P w= .ok (.value v) w') (dT:Step H s w H' s' w') (hv:RV H' v r) (hK:K r s'):eB P kp o a w H s K:=by
 intro Q _
 unfold Oper.wp
 rw[eG]
 exact⟨v,H',s',r,rfl,dT,hv,hK⟩
theorem eB.same {v:Value}{r:AV} (hh:dv H s w) (eG:(execOp a.eval o).run P w= .ok (.value v) w) (hv:RV H v r) (hK:K r s):eB P kp o a w H s K:=
 .value eG (.refl hh) hv hK
theorem eB.skip {w':World}{H':PH}{s':Hp} (eG:(execOp a.eval o).run P w= .ok .skip w') (dT:Step H s w H' s' w') (hK:K (.dr []) s'):eB P kp o a w H s K:=by
 intro Q _
 unfold Oper.wp
 rw[eG]
 exact⟨undef,H',s',.dr [],rfl,dT,RV.undef _,hK⟩
theorem RV.jc {x:Value}{y:Value} (h:RV H x (.v y)):x=y:=by cases h;rfl
theorem RV.sL {x:Value}{l off:Nat} (h:RV H x (.ptr l off)):x= .pointer (some ⟨l,off,none⟩):=by cases h;rfl
theorem W2 (vs:Array Value) (off n:Nat):(vs.extract off (off+n)).toList=(vs.toList.drop off).take n:=K2 vs off n
theorem RV.cK {vs:Array Value}{cs:List AV} (h:dJ H vs cs) (db: ∀c∈cs,c.one=true) (off n:Nat) (hn:off+n≤cs.length):RV H (.agg (vs.extract off (off+n))) (cK true n (cs.drop off)):=by
 have:=h.sub off n hn
 exact .agg _ _ (fun c hc=>db c (List.mem_of_mem_drop (List.mem_of_mem_take hc))) this.1 this.2
theorem RV.SC {vs:Array Value}{cs:List AV} (h:dJ H vs cs) (off:Nat) (hn:off+1≤cs.length):RV H (vs.getD off Go.undef) (Av.cK false 1 (cs.drop off)):=by
 have h1:off<cs.length:=by omega
 have:=h.2 off cs[off] (List.getElem?_eq_getElem h1)
 have e:Av.cK false 1 (cs.drop off)=cs[off]:=by
  unfold Av.cK
  rw[if_neg (by simp),List.drop_eq_getElem_cons h1];rfl
 rw[e];exact this
theorem dv.read {l:Nat}{cs:List AV} (hh:dv H s w) (h:s.read l=some cs):(∀c∈cs,c.one=true)∧ ∃vs T fz,w.heap[l]? =some (.cells vs T fz)∧dJ H vs cs:=by
 unfold Hp.read at h
 split at h
 ·rename_i c hc;obtain rfl:=Option.some.inj h;obtain⟨h0,vs,T,h1,h2,_⟩:=hh.ob l _ hc;exact⟨h0,vs,T,_,h1,h2⟩
 ·rename_i c hc;obtain rfl:=Option.some.inj h;obtain⟨h0,vs,T,fz,h1,h2,_⟩:=hh.ob l _ hc;exact⟨h0,vs,T,fz,h1,h2⟩
 ·rename_i T c hc;obtain rfl:=Option.some.inj h;obtain⟨h0,vs,h1,h2,_⟩:=hh.ob l _ hc;exact⟨h0,vs,T,_,h1,h2⟩
 ·rename_i c hc;obtain rfl:=Option.some.inj h;obtain⟨h0,vs,T,h1,h2,_⟩:=hh.ob l _ hc;exact⟨h0,vs,T,_,h1,h2⟩
 ·cases h
theorem Q4 (w:World) (ty:TypeId) (d:TypeDesc) (ad:Addr) (x:Value) (hu:P.underlying ty=some d) (hd:d.isRow=false) (hx:w.cell? ad=some x):(loadVar ty ad).run P w= .ok x w:=by
 simp[loadVar,Qy hu,hd,hx]
theorem abR (t:TypeId) (x:Operand) (ho:o.op= .load t x) (d:TypeDesc) (hu:P.underlying t=some d) (n:Nat) (hn:(P.info? t).map (·.size)=some n) (h1:d.isRow=false→n=1)
  (hx:cd x=true) (hf:eo H a f) (hh:dv H s w) (hG:G ⟨P,kp⟩ (.load d.isRow n x) f s K):eB P kp o a w H s K:=by
 have hv:=hf.ev x hx
 simp only[G]at hG
 split at hG
 ·rename_i l off he
  rw[he]at hv
  have eT:=hv.sL
  split at hG
  case h_2=>exact hG.elim
  rename_i cs dF
  obtain⟨hle,hK⟩:=hG
  obtain⟨db,vs,T,fz,hb,hr⟩:=hh.read dF
  cases hd:d.isRow with
  |true=>
   rw[hd]at hK
   have Kk:w.rangeAt l off ((vs.toList.drop off).take n):=by
    intro j v hj
    rw[cell_of_row w l (off+j) vs T _ hb]
    rw[List.getElem?_take]at hj
    split at hj
    ·simpa using hj
    ·cases hj
   have hlen:((vs.toList.drop off).take n).length=n:=by
    have:=hr.1
    simp;omega
   have eG:=run_loadAt_mid (P:=P) w l off t ((vs.toList.drop off).take n) d Kk hu hd (by rw[hlen];exact hn)
   refine .same hh (v:= .agg ((vs.toList.drop off).take n).toArray) ?_ ?_ hK
   ·simp[execOp,ho,eT,eG]
   ·have:=RV.cK hr db off n hle
    rw[show((vs.toList.drop off).take n).toArray=vs.extract off (off+n) by rw[←W2]]
    exact this
  |false=>
   rw[hd]at hK
   obtain rfl:=h1 hd
   have aW:off<vs.size:=by have:=hr.1;omega
   have hc:w.cell? ⟨l,off,none⟩=some (vs.getD off undef):=by
    rw[cell_of_row w l off vs T _ hb];simp[aW]
   have eG:=Q4 (P:=P) w t d ⟨l,off,none⟩ _ hu hd hc
   refine .same hh (v:=vs.getD off undef) ?_ (RV.SC hr off hle) hK
   simp[execOp,ho,eT,Instr.loadAt,Instr.sureAddr,eG]
 ·rename_i cs he
  rw[he]at hv
  obtain⟨hle,hK⟩:=hG
  generalize dc:a.eval x=xv at hv
  cases hv with
  |eJ b off fW cs db hH hR=>
   have vG: ∀j,j<cs.length→w.cell? ⟨b,off+j,none⟩=some (fW j):=fun j hj=>hh.ro _ _ _ (hH j hj)
   cases hd:d.isRow with
   |true=>
    rw[hd]at hK
    have Kk:w.rangeAt b off ((List.range n).map fW):=by
     intro j v hj
     rw[List.getElem?_map]at hj
     by_cases AD:j<n
     ·rw[List.getElem?_range AD]at hj
      obtain rfl:fW j=v:=by simpa using hj
      exact vG j (by omega)
     ·rw[List.getElem?_eq_none (by simp;omega)]at hj;simp at hj
    have eG:=run_loadAt_mid (P:=P) w b off t ((List.range n).map fW) d Kk hu hd (by simp[hn])
    refine .same hh (v:= .agg ((List.range n).map fW).toArray) ?_ ?_ hK
    ·simp only[execOp,ho,dc,Sem.run_bind,eG];rfl
    ·refine .agg _ _ (fun c hc=>db c (List.mem_of_mem_take hc)) (by simp;omega) (fun j u hu=> ?_)
     have AD:j<n:=by have:=(List.getElem?_eq_some_iff.1 hu).1;simp at this;omega
     rw[List.getElem?_take_of_lt AD]at hu
     have:=hR j u hu
     simpa[AD] using this
   |false=>
    rw[hd]at hK
    obtain rfl:=h1 hd
    have hc:=vG 0 (by omega)
    have eG:=Q4 (P:=P) w t d ⟨b,off,none⟩ _ hu hd hc
    refine .same hh (v:=fW 0) ?_ ?_ hK
    ·simp[execOp,ho,dc,Instr.loadAt,Instr.sureAddr,eG]
    ·match cs,hle with
     |c::cs,_=>exact hR 0 c rfl
 ·exact hG.elim
theorem Mv {g:Nat}{T:TypeId} (ty:TypeId) (vs ys:Array Value) (off:Nat) {fz:Nat×Nat} (hb:w.heap[g]? =some (.cells vs T fz)) (II: ∀j,j<vs.size→ ¬(fz.1≤j∧j<fz.2)) (CL:off+ys.size≤vs.size) (h1: ∀x∈ys.toList,x.oneCell'=true) (v:Value) (hv:v.cells=ys)
  (hn:(P.info? ty).map (·.size)=some ys.size):(Instr.storeAt ty (.pointer (some ⟨g,off,none⟩)) v).run P w= .ok () (w.setRow g (jW vs off ys.toList)):=by
 have dT:=Q3 P g off T fz ys.toList 0 vs w hb II (by simpa using CL) h1
 simp only[Nat.add_zero]at dT
 have Eg:(storeCells ⟨g,off,none⟩ ys.toList).run P w= .ok () (w.setRow g (jW vs off ys.toList)):=by rw[dT];rfl
 cases hq:P.info? ty with
 |none=>simp[hq]at hn
 |some i=>
  have hs:ys.size=i.size:=by simp[hq]at hn;omega
  simp[Instr.storeAt,Instr.sureAddr,storeVar,sizeOf,typeInfo,hq,hv,hs,Eg]
theorem a99 (t:TypeId) (x y:Operand) (ho:o.op= .store t x y) (n:Nat) (hn:(P.info? t).map (·.size)=some n) (h0:0<n) (hx:cd x=true) (hy:cd y=true) (hf:eo H a f) (hh:dv H s w)
  (hG:G ⟨P,kp⟩ (.store n x y) f s K):eB P kp o a w H s K:=by
 have hv:=hf.ev x hx
 have fT:=hf.ev y hy
 simp only[G]at hG
 split at hG
 case h_2=>exact hG.elim
 rename_i l off he
 rw[he]at hv
 split at hG
 ·rename_i cs dF
  obtain⟨hlen,hle,hK⟩:=hG
  have eT:=hv.sL
  obtain⟨hr,db⟩:=fT.cells (by omega)
  obtain⟨vs,T,hb,fK,dT⟩:=Step.store hh dF off (ev f y).cells (a.eval y).cells hr db (by omega)
  refine .skip ?_ dT hK
  have eG:=Mv (P:=P) t vs (a.eval y).cells off hb (I7 _) (by have:=hr.1;omega) (hr.zY db) (a.eval y) rfl (by rw[hn,hr.1,hlen])
  simp only[execOp,ho,eT,Sem.run_bind,eG];rfl
 ·exact hG.elim
theorem a7t (t:TypeId) (x y:Operand) (ho:o.op= .store t x y) (n:Nat) (hn:(P.info? t).map (·.size)=some n) (h0:0<n) (hx:cd x=true) (hy:cd y=true) (hf:eo H a f) (hh:dv H s w)
  (hG:G ⟨P,kp⟩ (.Fx n x y) f s K):eB P kp o a w H s K:=by
 have hv:=hf.ev x hx
 have fT:=hf.ev y hy
 simp only[G]at hG
 split at hG
 case h_2=>exact hG.elim
 rename_i l off he
 rw[he]at hv
 split at hG
 ·rename_i cs dF
  obtain⟨hlen,hle,hK⟩:=hG
  have eT:=hv.sL
  obtain⟨hr,db⟩:=fT.cells (by omega)
  obtain⟨vs,T,hb,fK,dT⟩:=Step.store hh dF off (ev f y).cells (a.eval y).cells hr db (by omega)
  refine .skip ?_ dT hK
  have eG:=Mv (P:=P) t vs (a.eval y).cells off hb (I7 _) (by have:=hr.1;omega) (hr.zY db) (a.eval y) rfl (by rw[hn,hr.1,hlen])
  simp only[execOp,ho,eT,Sem.run_bind,eG];rfl
 ·rename_i T cs dF
  obtain⟨hlen,hle,hK⟩:=hG
  have eT:=hv.sL
  obtain⟨hr,db⟩:=fT.cells (by omega)
  obtain⟨vs,hb,fK,dT⟩:=Step.storeT hh dF off (ev f y).cells (a.eval y).cells hr db (by omega)
  refine .skip ?_ dT hK
  have eG:=Mv (P:=P) t vs (a.eval y).cells off hb (I7 _) (by have:=hr.1;omega) (hr.zY db) (a.eval y) rfl (by rw[hn,hr.1,hlen])
  simp only[execOp,ho,eT,Sem.run_bind,eG];rfl
 ·rename_i cs dF
  obtain⟨hlen,hle,hK⟩:=hG
  have eT:=hv.sL
  obtain⟨hr,db⟩:=fT.cells (by omega)
  obtain⟨vs,T,hb,fK,dT⟩:=Step.ZW hh dF off (ev f y).cells (a.eval y).cells hr db (by omega)
  refine .skip ?_ dT hK
  have eG:=Mv (P:=P) t vs (a.eval y).cells off hb (a0r _) (by have:=hr.1;omega) (hr.zY db) (a.eval y) rfl (by rw[hn,hr.1,hlen])
  simp only[execOp,ho,eT,Sem.run_bind,eG];rfl
 ·exact hG.elim
theorem a9a (T:TypeId) (ho:o.op= .alloc T) (i:TypeInfo) (hi:P.info? T=some i) (z:Value) (hz:i.zero=some z) (db: ∀x∈z.cells.toList,x.oneCell'=true) (hh:dv H s w)
  (hG:G ⟨P,kp⟩ (.alloc T (z.cells.toList.map gS)) f s K):eB P kp o a w H s K:=by
 refine .value (v:= .pointer (some ⟨w.heap.size,0,none⟩)) (w':=w.alloc (.cells z.cells T)) ?_ (Step.new hh z.cells T (z.cells.toList.map gS) (fun c hc=>by obtain⟨x,_,rfl⟩:=List.mem_map.1 hc;exact Br x) (dJ.CC H _ db))
  (.ptr _ _) (hG _ hh.me)
 simp[execOp,ho,Instr.alloc,zeroValue,typeInfo,hi,hz,newVar,newRow]
theorem aeu (T:TypeId) (x:Operand) (ho:o.op= .box T x) (hx:cd x=true) (hf:eo H a f) (hh:dv H s w) (hG:G ⟨P,kp⟩ (.box T x) f s K):eB P kp o a w H s K:=by
 obtain⟨hr,db⟩:=(hf.ev x hx).cells hG.1
 refine .value (v:= .pointer (some ⟨w.heap.size,0,none⟩)) (w':=w.alloc (.cells (a.eval x).cells T)) ?_ (Step.new hh _ T _ db hr) (.ptr _ _) (hG.2 _ hh.me)
 simp[execOp,ho,Instr.box,newVar,newRow]
theorem a0O (x:Operand) (ho:o.op= .move x∨o.op= .assign x) (hx:cd x=true) (hf:eo H a f) (hh:dv H s w) (hG:G ⟨P,kp⟩ (.mv x) f s K):eB P kp o a w H s K:=by
 refine .same hh ?_ (hf.ev x hx) hG
 rcases ho with ho|ho<;>simp[execOp,ho]
theorem abS (c x y:Operand) (ho:o.op= .pick c x y) (hc:cd c=true) (hx:cd x=true) (hy:cd y=true) (hf:eo H a f) (hh:dv H s w) (hG:G ⟨P,kp⟩ (.pick c x y) f s K):eB P kp o a w H s K:=by
 have hv:=hf.ev c hc
 simp only[G]at hG
 split at hG
 case h_2=>exact hG.elim
 rename_i t he
 rw[he]at hv
 have eT:=hv.jc
 cases t
 ·exact .same hh (by simp[execOp,ho,eT,asBool]) (hf.ev y hy) (by simpa using hG)
 ·exact .same hh (by simp[execOp,ho,eT,asBool]) (hf.ev x hx) (by simpa using hG)
theorem abT (x:Operand) (ho:o.op= .nilCheck x) (hx:cd x=true) (hf:eo H a f) (hh:dv H s w) (hG:G ⟨P,kp⟩ (.df x) f s K):eB P kp o a w H s K:=by
 have hv:=hf.ev x hx
 simp only[G]at hG
 split at hG
 ·rename_i l off he;rw[he]at hv;have:=hv.sL;exact .same hh (by simp[execOp,ho,this]) (.ptr _ _) hG
 ·rename_i cs he
  rw[he]at hv
  generalize dc:a.eval x=xv at hv
  refine .same hh (v:=xv) ?_ hv hG
  cases hv;simp[execOp,ho,dc]
 ·rename_i n cs he
  rw[he]at hv
  generalize dc:a.eval x=xv at hv
  refine .same hh (v:=xv) ?_ hv hG
  cases hv;simp[execOp,ho,dc]
 ·exact hG.elim
theorem Xu {x:Value}{cs:List AV} (h:RV H x (.eJ cs)) (k:Nat): ∃b off,x= .pointer (some ⟨b,off,none⟩)∧RV H (.pointer (some ⟨b,off+k,none⟩)) (.eJ (cs.drop k)):=by
 cases h with
 |eJ b off fW cs db hH hR=>
  refine⟨b,off,rfl,.eJ b (off+k) (fun j=>fW (k+j)) _ (fun c hc=>db c (List.mem_of_mem_drop hc)) (fun j hj=> ?_) (fun j u hu=> ?_)⟩
  ·rw[Nat.add_assoc];exact hH (k+j) (by simp at hj;omega)
  ·exact hR (k+j) u (by simpa using hu)
theorem uh (b o k:Nat):(⟨b,o,none⟩:Addr).add k=⟨b,o+k,none⟩:=Addr.add_mid b o k
theorem agl (t:TypeId) (x:Operand) (i:Nat) (ho:o.op= .fieldAddr t x i) (fs:Array Field) (hu:P.underlying t=some (.struct fs)) (fd:Field) (Dc:fs[i]? =some fd) (n:Nat) (hn:(P.info? fd.type).map (·.size)=some n) (h0:n≠0)
  (hx:cd x=true) (hf:eo H a f) (hh:dv H s w) (hG:G ⟨P,kp⟩ (.fa fd.offset x) f s K):eB P kp o a w H s K:=by
 have hv:=hf.ev x hx
 have eG: ∀b off:Nat,(Instr.fieldAt t (.pointer (some ⟨b,off,none⟩)) i).run P w= .ok (.pointer (some ⟨b,off+fd.offset,none⟩)) w:=by
  intro b off
  cases hq:P.info? fd.type with
  |none=>simp[hq]at hn
  |some ii=>
   have hs:ii.size≠0:=by simp[hq]at hn;omega
   simp[Instr.fieldAt,run_underlying hu,Dc,Instr.sureAddr,fieldPlace,sizeOf,typeInfo,hq,hs,uh]
 simp only[G]at hG
 split at hG
 ·rename_i l off he;rw[he]at hv;have eT:=hv.sL;exact .same hh (by simp only[execOp,ho,eT,Sem.run_bind,eG];rfl) (.ptr _ _) hG
 ·rename_i cs he
  rw[he]at hv
  obtain⟨b,off,eT,hr⟩:=Xu hv fd.offset
  exact .same hh (by simp only[execOp,ho,eT,Sem.run_bind,eG];rfl) hr hG
 ·exact hG.elim
theorem aev (t:TypeId) (x i:Operand) (ho:o.op= .indexAddr t x i) (len:Nat) (e:TypeId) (hu:P.underlying t=some (.array len e)) (k:Nat) (hk:(P.info? e).map (·.size)=some k)
  (hx:cd x=true) (hi:cd i=true) (hf:eo H a f) (hh:dv H s w) (hG:G ⟨P,kp⟩ (.jD k len x i) f s K):eB P kp o a w H s K:=by
 have hv:=hf.ev x hx
 have sf:=hf.ev i hi
 have eG: ∀(b off:Nat) (kk:IntKind) (m:Int),0≤m→m<len→(Instr.indexAt t (.pointer (some ⟨b,off,none⟩)) (.int kk m)).run P w= .ok (.pointer (some ⟨b,off+m.toNat*k,none⟩)) w:=by
  intro b off kk m h0 h1
  cases hq:P.info? e with
  |none=>simp[hq]at hk
  |some ii=>
   have hs:ii.size=k:=by simpa[hq] using hk
   simp[Instr.indexAt,asIntOf,run_underlying hu,Instr.sureAddr,h0,h1,sizeOf,typeInfo,hq,hs,uh]
 simp only[G]at hG
 split at hG
 ·rename_i l off kk m he vT
  rw[he]at hv;rw[vT]at sf
  have eT:=hv.sL;have xM:=sf.jc
  exact .same hh (by simp only[execOp,ho,eT,xM,Sem.run_bind,eG _ _ _ _ hG.1 hG.2.1];rfl) (.ptr _ _) hG.2.2
 ·rename_i cs kk m he vT
  rw[he]at hv;rw[vT]at sf
  have xM:=sf.jc
  obtain⟨b,off,eT,hr⟩:=Xu hv (m.toNat*k)
  exact .same hh (by simp only[execOp,ho,eT,xM,Sem.run_bind,eG _ _ _ _ hG.1 hG.2.1];rfl) hr hG.2.2
 ·exact hG.elim
theorem ny {k:Nat}: ∀ {xs:List AV},(∀e∈xs,e.cells.length=k)→(flat xs).length=xs.length*k
 | [],_=>by simp[flat]
 |x::xs,h=>by
  have:=ny (xs:=xs) (fun e he=>h e (List.mem_cons_of_mem _ he))
  have h1:=h x List.mem_cons_self
  simp only[flat,List.flatMap_cons,List.length_append,List.length_cons,Nat.add_mul,Nat.one_mul]at this⊢
  omega
theorem sK {k:Nat}: ∀ {xs:List AV} (n:Nat),(∀e∈xs,e.cells.length=k)→(flat xs).drop (n*k)=flat (xs.drop n)∧(flat xs).take (n*k)=flat (xs.take n)
 |xs,0,_=>by simp[flat]
 | [],n+1,_=>by simp[flat]
 |x::xs,n+1,h=>by
  obtain⟨h1,h2⟩:=sK (xs:=xs) n (fun e he=>h e (List.mem_cons_of_mem _ he))
  have h3:=h x List.mem_cons_self
  have e:(n+1)*k=x.cells.length+n*k:=by rw[Nat.add_mul,Nat.one_mul,h3,Nat.add_comm]
  simp only[flat,List.flatMap_cons,List.drop_succ_cons,List.take_succ_cons]at*
  constructor
  ·rw[e,List.drop_append,List.drop_of_length_le (by omega),Nat.add_sub_cancel_left,List.nil_append]
   exact h1
  ·rw[e,List.take_append]
   rw[List.take_of_length_le (by omega),Nat.add_sub_cancel_left,h2]
theorem RV.R0 {x:Value}{xs:List AV}{ow:Own} (h:RV H x (.sl xs ow)) (bI:xs≠ []): ∃(b off cap k:Nat) (fW:Nat→Value),x= .slice (some ⟨b,off,none⟩) xs.length cap∧0<k∧xs.length≤cap∧(∀e∈xs,e.cells.length=k)∧(∀c∈flat xs,c.one=true)∧
  (∀j,j<xs.length*k→H b (off+j)=some (fW j))∧(∀j u,(flat xs)[j]? =some u→RV H (fW j) u)∧ow.ok b off cap:=by
 cases h with
 |jo=>exact absurd rfl bI
 |sl b off len cap k fW xs ow hk hlen ft gr db hH hR ho=>
  subst hlen
  exact⟨b,off,cap,k,fW,rfl,hk,ft,gr,db,hH,hR,ho⟩
theorem aew (t:TypeId) (x i:Operand) (ho:o.op= .indexAddr t x i) (e:TypeId) (hu:P.underlying t=some (.slice e)) (k:Nat) (hk:(P.info? e).map (·.size)=some k)
  (hx:cd x=true) (hi:cd i=true) (hf:eo H a f) (hh:dv H s w) (hG:G ⟨P,kp⟩ (.kA k x i) f s K):eB P kp o a w H s K:=by
 have hv:=hf.ev x hx
 have sf:=hf.ev i hi
 have eG: ∀(b off len cap:Nat) (kk:IntKind) (m:Int),0≤m→m<len→(Instr.indexAt t (.slice (some ⟨b,off,none⟩) len cap) (.int kk m)).run P w= .ok (.pointer (some ⟨b,off+m.toNat*k,none⟩)) w:=by
  intro b off len cap kk m h0 h1
  cases hq:P.info? e with
  |none=>simp[hq]at hk
  |some ii=>
   have hs:ii.size=k:=by simpa[hq] using hk
   simp[Instr.indexAt,asIntOf,run_underlying hu,h0,h1,sizeOf,typeInfo,hq,hs,uh]
 simp only[G]at hG
 split at hG
 ·rename_i xs ow kk m he vT
  rw[he]at hv;rw[vT]at sf
  have xM:=sf.jc
  obtain⟨h0,hG⟩:=hG
  split at hG
  case h_2=>exact hG.elim
  rename_i el gr
  obtain⟨hlen,hK⟩:=hG
  have aW:m.toNat<xs.length:=(List.getElem?_eq_some_iff.1 gr).1
  obtain⟨b,off,cap,k',fW,eT,oR,ft,BL,db,hH,hR,_⟩:=hv.R0 (by intro FM;rw[FM]at aW;simp at aW)
  have qx:el∈xs:=List.mem_of_getElem? gr
  obtain rfl:k=k':=by rw[←hlen];exact BL el qx
  have hm1:m<(xs.length:Int):=by omega
  refine .same hh (v:= .pointer (some ⟨b,off+m.toNat*k,none⟩)) (by simp only[execOp,ho,eT,xM,Sem.run_bind,eG _ _ _ _ _ _ h0 hm1];rfl) ?_ hK
  have S8: ∀j u,el.cells[j]? =some u→(flat xs)[m.toNat*k+j]? =some u:=fun j u hu=>by
   have hd:=(sK (xs:=xs) m.toNat BL).1
   have:((flat xs).drop (m.toNat*k))[j]? =some u:=by
    rw[hd,List.drop_eq_getElem_cons aW]
    have hee:xs[m.toNat]=el:=(List.getElem?_eq_some_iff.1 gr).2
    rw[hee]
    simp only[flat,List.flatMap_cons]
    rw[List.getElem?_append_left (List.getElem?_eq_some_iff.1 hu).1]
    exact hu
   simpa using this
  refine .eJ b _ (fun j=>fW (m.toNat*k+j)) _ (fun c hc=> ?_) (fun j hj=> ?_) (fun j u hu=>hR _ u (S8 j u hu))
  ·obtain⟨j,hj⟩:=List.getElem?_of_mem hc
   exact db c (List.mem_of_getElem? (S8 j c hj))
  ·rw[Nat.add_assoc]
   refine hH _ ?_
   have:=(List.getElem?_eq_some_iff.1 (S8 j _ (List.getElem?_eq_getElem hj))).1
   rwa[ny BL]at this
 ·rename_i l off len k' kk m he vT
  rw[he]at hv;rw[vT]at sf
  have xM:=sf.jc
  obtain⟨rfl,h0,h1,hK⟩:=hG
  generalize dc:a.eval x=xv at hv
  cases hv with
  |gK l off len cap k jY ft=>exact .same hh (by simp only[execOp,ho,dc,xM,Sem.run_bind,eG _ _ _ _ _ _ h0 h1];rfl) (.ptr _ _) hK
 ·rename_i l len cap k' kk m he vT
  rw[he]at hv;rw[vT]at sf
  have xM:=sf.jc
  obtain⟨rfl,h0,h1,hK⟩:=hG
  generalize dc:a.eval x=xv at hv
  cases hv with
  |mb l len cap k jY ft=>
   have r:=eG l 0 len cap kk m h0 h1
   rw[Nat.zero_add]at r
   exact .same hh (by simp only[execOp,ho,dc,xM,Sem.run_bind,r];rfl) (.ptr _ _) hK
 ·exact hG.elim
end
section
variable {P:Program}{kp:AV→Hp→Prop}{o:Oper}{a:Act}{w:World}{H:PH}{s:Hp}{K:AV→Hp→Prop}{f:Fr}
theorem Yd {vs:Array Value}{cs:List AV} (h:dJ H vs cs) (db: ∀c∈cs,c.one=true) (t:TypeId) (d:TypeDesc) (hu:P.underlying t=some d) (n:Nat) (hn:(P.info? t).map (·.size)=some n) (h1:d.isRow=false→n=1)
  (off:Nat) (hle:off+n≤cs.length): ∃v,(∀w,(part t vs off).run P w= .ok v w)∧RV H v (cK d.isRow n (cs.drop off)):=by
 cases hq:P.info? t with
 |none=>simp[hq]at hn
 |some i=>
  have hs:i.size=n:=by simpa[hq] using hn
  cases hd:d.isRow with
  |true=>exact⟨_,fun w=>by rw[Bu hu hd hq,hs],RV.cK h db off n hle⟩
  |false=>
   obtain rfl:=h1 hd
   have aW:off<vs.size:=by have:=h.1;omega
   exact⟨_,fun w=>DY hu hd vs off (vs.getD off undef) (by simp[aW]) w,RV.SC h off hle⟩
theorem aex (t:TypeId) (x:Operand) (i:Nat) (ho:o.op= .field t x i) (fs:Array Field) (hu:P.underlying t=some (.struct fs)) (fd:Field) (Dc:fs[i]? =some fd) (d:TypeDesc) (hd:P.underlying fd.type=some d) (n:Nat)
  (hn:(P.info? fd.type).map (·.size)=some n) (h1:d.isRow=false→n=1) (hx:cd x=true) (hf:eo H a f) (hh:dv H s w) (hG:G ⟨P,kp⟩ (.Lb d.isRow fd.offset n x) f s K):eB P kp o a w H s K:=by
 have hv:=hf.ev x hx
 simp only[G]at hG
 split at hG
 case h_2=>exact hG.elim
 rename_i cs he
 rw[he]at hv
 generalize dc:a.eval x=xv at hv
 cases hv with
 |agg vs cs db hl hR=>
  obtain⟨v,eG,hr⟩:=Yd ⟨hl,hR⟩ db fd.type d hd n hn h1 fd.offset hG.1
  exact .same hh (by simp[execOp,ho,dc,Instr.field,run_underlying hu,Dc,asAgg,eG]) hr hG.2
theorem abU (t:TypeId) (x i:Operand) (ho:o.op= .index t x i) (len:Nat) (e:TypeId) (hu:P.underlying t=some (.array len e)) (d:TypeDesc) (hd:P.underlying e=some d) (k:Nat)
  (hk:(P.info? e).map (·.size)=some k) (h1:d.isRow=false→k=1) (hx:cd x=true) (hi:cd i=true) (hf:eo H a f) (hh:dv H s w) (hG:G ⟨P,kp⟩ (.Im d.isRow k len x i) f s K):eB P kp o a w H s K:=by
 have hv:=hf.ev x hx
 have sf:=hf.ev i hi
 simp only[G]at hG
 split at hG
 case h_2=>exact hG.elim
 rename_i cs kk m he vT
 rw[he]at hv;rw[vT]at sf
 have xM:=sf.jc
 generalize dc:a.eval x=xv at hv
 cases hv with
 |agg vs cs db hl hR=>
  obtain⟨h0,hm,hle,hK⟩:=hG
  obtain⟨v,eG,hr⟩:=Yd ⟨hl,hR⟩ db e d hd k hk h1 (m.toNat*k) hle
  cases hq:P.info? e with
  |none=>simp[hq]at hk
  |some ii=>
   have hs:ii.size=k:=by simpa[hq] using hk
   exact .same hh (by simp[execOp,ho,dc,xM,Instr.index,asIntOf,run_underlying hu,h0,hm,sizeOf,typeInfo,hq,hs,eG]) hr hK
theorem abV (t:TypeId) (x i:Operand) (ho:o.op= .index t x i) (hu:P.underlying t=some .string) (hx:cd x=true) (hi:cd i=true) (hf:eo H a f) (hh:dv H s w) (hG:G ⟨P,kp⟩ (.CM x i) f s K):eB P kp o a w H s K:=by
 have hv:=hf.ev x hx
 have sf:=hf.ev i hi
 simp only[G]at hG
 split at hG
 case h_2=>exact hG.elim
 rename_i b kk m he vT
 rw[he]at hv;rw[vT]at sf
 have eT:=hv.jc;have xM:=sf.jc
 obtain⟨h0,hG⟩:=hG
 split at hG
 case h_2=>exact hG.elim
 rename_i c hc
 have wY:b[m.toNat]? =some c:=by
  have aW:m.toNat<b.data.size:=(Array.getElem?_eq_some_iff.1 hc).1
  rw[getElem?_pos b m.toNat aW]
  have:=(Array.getElem?_eq_some_iff.1 hc).2
  rw[←this];rfl
 exact .same hh (v:= .int .u8 c.toNat) (by simp[execOp,ho,eT,xM,Instr.index,asIntOf,run_underlying hu,h0,wY]) (.v _ rfl) hG
theorem aey (x:Operand) (i:Nat) (ho:o.op= .extract x i) (hx:cd x=true) (hf:eo H a f) (hh:dv H s w) (hG:G ⟨P,kp⟩ (.ext x i) f s K):eB P kp o a w H s K:=by
 have hv:=hf.ev x hx
 simp only[G]at hG
 split at hG
 case h_2=>exact hG.elim
 rename_i vs he
 rw[he]at hv
 split at hG
 case h_2=>exact hG.elim
 rename_i r hr
 generalize dc:a.eval x=xv at hv
 cases hv with
 |dr us vs hl hR=>
  have aW:i<us.size:=by rw[hl];exact(List.getElem?_eq_some_iff.1 hr).1
  have:=hR i r hr
  refine .same hh (v:=us.getD i undef) ?_ this hG
  simp[execOp,ho,dc,Instr.extract,aW]
theorem aez (t:TypeId) (x:Operand) (rB:o.op= .call {callee:= .builtin .len,args:= #[x],argTypes:= #[t]}) (e:TypeId) (hu:P.underlying t=some (.slice e))
  (hx:cd x=true) (hf:eo H a f) (hh:dv H s w) (hG:G ⟨P,kp⟩ (.len x) f s K):eB P kp o a w H s K:=by
 have hv:=hf.ev x hx
 simp only[G]at hG
 split at hG
 ·rename_i xs ow he
  rw[he]at hv
  generalize dc:a.eval x=xv at hv
  have hlen: ∃ad cap,xv= .slice ad xs.length cap:=by
   cases hv with
   |jo ad cap=>exact⟨ad,cap,rfl⟩
   |sl b off len cap k fW xs ow hk hlen=>subst hlen;exact⟨_,cap,rfl⟩
  obtain⟨ad,cap,rfl⟩:=hlen
  exact .same hh (v:= .int .i64 xs.length) (by simp[execOp,rB,resolve,invoke,builtin,dc,Builtin.len_,run_underlying hu,goInt]) (.v _ rfl) hG
 ·rename_i l off n k he
  rw[he]at hv
  generalize dc:a.eval x=xv at hv
  cases hv with
  |gK l off len cap k hk ft=>exact .same hh (v:= .int .i64 n) (by simp[execOp,rB,resolve,invoke,builtin,dc,Builtin.len_,run_underlying hu,goInt]) (.v _ rfl) hG
 ·rename_i l n cap k he
  rw[he]at hv
  generalize dc:a.eval x=xv at hv
  cases hv with
  |mb l len cap k hk ft=>exact .same hh (v:= .int .i64 n) (by simp[execOp,rB,resolve,invoke,builtin,dc,Builtin.len_,run_underlying hu,goInt]) (.v _ rfl) hG
 ·exact hG.elim
theorem abW (t:TypeId) (x:Operand) (rB:o.op= .call {callee:= .builtin .len,args:= #[x],argTypes:= #[t]}) (hu:P.underlying t=some .string)
  (hx:cd x=true) (hf:eo H a f) (hh:dv H s w) (hG:G ⟨P,kp⟩ (.KI x) f s K):eB P kp o a w H s K:=by
 have hv:=hf.ev x hx
 simp only[G]at hG
 split at hG
 ·rename_i b he
  rw[he]at hv
  have eT:=hv.jc
  exact .same hh (v:= .int .i64 b.size) (by simp[execOp,rB,resolve,invoke,builtin,eT,Builtin.len_,run_underlying hu,goInt]) (.v _ rfl) hG
 ·exact hG.elim
theorem abX (t:TypeId) (x:Operand) (rB:o.op= .call {callee:= .builtin .len,args:= #[x],argTypes:= #[t]}) (n:Nat) (e:TypeId) (hu:P.underlying t=some (.array n e)) (hh:dv H s w) (hG:G ⟨P,kp⟩ (.KJ n) f s K):eB P kp o a w H s K:=by
 exact .same hh (v:= .int .i64 n) (by simp[execOp,rB,resolve,invoke,builtin,Builtin.len_,run_underlying hu,goInt]) (.v _ rfl) hG
theorem a7u (op:BinOp) (t:TypeId) (x y r:Value) (h:eL op x y=some r) (w:World):(binOp op t x y).run P w= .ok r w∧r.oneCell'=true:=by
 unfold eL at h
 split at h
 ·rename_i k m k' m'
  split at h
  ·rename_i hs
   unfold DX at h
   split at h
   ·cases h
   ·rename_i hy
    cases op<;>simp[pX]at hs<;>simp only[]at h<;>(obtain rfl:=Option.some.inj h)<;>simp[binOp,Op.shift,hy,Value.oneCell']
  ·rename_i hs
   split at h
   ·rename_i hk
    subst hk
    cases op<;>simp[pX]at hs<;>simp only[uk]at h<;>first
     |(split at h<;>first|(cases h;done)|skip)
     |skip
    all_goals (obtain rfl:=Option.some.inj h)
    all_goals simp_all [binOp,Op.intArith,Op.intDiv,Op.intBits,Op.intCmp,Value.oneCell']
    all_goals first|(rw[Bool.eq_iff_iff];simp)|skip
   ·cases h
 ·unfold Ki at h
  cases op<;>simp only[]at h<;>first
   |(cases h;done)
   |(split at h<;>first|(cases h;done)|skip)
   |skip
  all_goals (obtain rfl:=Option.some.inj h)
  all_goals simp[binOp,Op.stringOp,Value.oneCell']
  all_goals first|omega|(intro hc;simp[IntKind.max,IntKind.signed,IntKind.bits]at hc;omega)|(simp[IntKind.max,IntKind.signed,IntKind.bits];omega)|skip
 ·cases h
theorem a45 (op:BinOp) (t:TypeId) (ox oy:Operand) (x y:Value) (h:(eL op x y).isSome) (w:World):(eqGuard op t ox oy x y).run P w= .ok () w:=by
 unfold eL at h
 split at h<;>first
  |(cases op<;>simp[eqGuard];done)
  |simp at h
theorem S9 (op:BinOp) (t:TypeId) (x y:Operand) (yt:TypeId) (ho:o.op= .binOp op t x y yt) (hx:cd x=true) (hy:cd y=true) (hf:eo H a f) (hh:dv H s w) (hG:G ⟨P,kp⟩ (.bin op x y) f s K):eB P kp o a w H s K:=by
 have hv:=hf.ev x hx
 have fT:=hf.ev y hy
 simp only[G]at hG
 split at hG
 case h_2=>exact hG.elim
 rename_i u v he kB
 rw[he]at hv;rw[kB]at fT
 have eT:=hv.jc;have tB:=fT.jc
 split at hG
 case h_2=>exact hG.elim
 rename_i r hr
 obtain⟨eG,db⟩:=a7u (P:=P) op t u v r hr w
 exact .same hh (v:=r) (by simp[execOp,ho,eT,tB,a45 op t x y u v (by simp[hr]) w,eG]) (.v _ db) hG
theorem agm (op:UnOp) (t:TypeId) (x:Operand) (ho:o.op= .unOp op t x) (hx:cd x=true) (hf:eo H a f) (hh:dv H s w) (hG:G ⟨P,kp⟩ (.un op x) f s K):eB P kp o a w H s K:=by
 have hv:=hf.ev x hx
 simp only[G]at hG
 split at hG
 case h_2=>exact hG.elim
 rename_i u he
 rw[he]at hv
 have eT:=hv.jc
 split at hG
 case h_2=>exact hG.elim
 rename_i r hr
 have eG:(Op.unary op u).run P w= .ok r w∧r.oneCell'=true:=by
  unfold Es at hr
  split at hr
  ·cases op<;>simp only[]at hr<;>first|(cases hr;done)|skip
   obtain rfl:=Option.some.inj hr
   simp[Op.unary,Value.oneCell']
  ·cases op<;>simp only[]at hr<;>first|(cases hr;done)|skip
   all_goals (obtain rfl:=Option.some.inj hr)
   all_goals simp[Op.unary,Op.intArith,Op.intBits,Value.oneCell']
  ·cases hr
 exact .same hh (v:=r) (by simp[execOp,ho,eT,eG.1]) (.v _ eG.2) hG
theorem aeA (st dt:TypeId) (x:Operand) (ho:o.op= .convert st dt x) (k k':IntKind) (hs:P.underlying st=some (.int k')) (hd:P.underlying dt=some (.int k)) (hx:cd x=true) (hf:eo H a f) (hh:dv H s w) (hG:G ⟨P,kp⟩ (.jF k x) f s K):eB P kp o a w H s K:=by
 have hv:=hf.ev x hx
 simp only[G]at hG
 split at hG
 case h_2=>exact hG.elim
 rename_i kk n he
 rw[he]at hv
 have eT:=hv.jc
 exact .same hh (v:= .int k (k.wrap n)) (by simp[execOp,ho,eT,convert,run_underlying hs,run_underlying hd,Conv.intToInt]) (.v _ rfl) hG
theorem aeB (neg:Bool) (t:TypeId) (x y:Operand) (yt:TypeId) (ho:o.op= .binOp (if neg then .neq else .eql) t x y yt) (d:Nat) (ks:List CK) (hk:tA P d t=some ks) (fK:P.cellsOf t=ks.length) (dP:(P.info? t).isSome) (hd:d≤10000)
  (xQ:(P.underlying t).any (·.isRow)=true) (Ow:P.eqGuardType P.depth t=false) (hx:cd x=true) (hy:cd y=true) (hf:eo H a f) (hh:dv H s w) (hG:G ⟨P,kp⟩ (.eqv neg (By ks) x y) f s K):eB P kp o a w H s K:=by
 have hv:=hf.ev x hx
 have fT:=hf.ev y hy
 simp only[G]at hG
 split at hG
 case h_2=>exact hG.elim
 rename_i cs ds he kB
 rw[he]at hv;rw[kB]at fT
 generalize dc:a.eval x=xv at hv
 generalize Eu:a.eval y=yv at fT
 cases hv with
 |agg vs cs db hl hR=>
  cases fT with
  |agg us ds aeC gX Tw=>
   obtain⟨hc,Lj,hK⟩:=hG
   have r1:dJ H vs cs:=⟨hl,hR⟩
   have r2:dJ H us ds:=⟨gX,Tw⟩
   obtain⟨f1,e1⟩:=DU _ cs vs.toList hc (dJ.lD.1 r1).1 (dJ.lD.1 r1).2
   obtain⟨f2,e2⟩:=DU _ ds us.toList Lj (dJ.lD.1 r2).1 (dJ.lD.1 r2).2
   rw[ME]at f1 f2
   have AE:vs.size=ks.length:=by have:=Bq f1;simpa using this
   have Tx:us.size=ks.length:=by have:=Bq f2;simpa using this
   obtain⟨i,hi⟩:=Option.isSome_iff_exists.1 dP
   have hs:i.size=ks.length:=by simpa[Program.cellsOf,hi] using fK
   obtain⟨desc,a0s⟩: ∃desc,P.underlying t=some desc:=by
    cases hu:P.underlying t with
    |none=>simp[hu]at xQ
    |some desc=>exact⟨desc,rfl⟩
   have hdr:desc.isRow=true:=by simpa[a0s] using xQ
   obtain⟨p,q,r,p1,p2,p3,hr⟩:=MD d t ks hk fK dP (10000 - d) w vs us 0 (by rw[List.drop_zero,←AE,List.take_of_length_le (by simp)];exact f1) (by rw[List.drop_zero,←Tx,List.take_of_length_le (by simp)];exact f2)
   rw[Bu a0s hdr hi]at p1 p2
   have ex:vs.extract 0 (0+i.size)=vs:=by rw[Nat.zero_add,hs,←AE];simp
   have eu:us.extract 0 (0+i.size)=us:=by rw[Nat.zero_add,hs,←Tx];simp
   rw[ex]at p1
   rw[eu]at p2
   simp only[Result.ok.injEq,and_true]at p1 p2
   subst p1;subst p2
   rw[show 10000 - d+d=10000 by omega]at p3
   have KN:r=AA (.agg cs) (.agg ds):=by
    rw[Bool.eq_iff_iff,K7,hr,List.drop_zero,List.drop_zero,e1,e2]
    rw[List.take_of_length_le (by simp[AE]),List.take_of_length_le (by simp[Tx])]
    constructor
    ·intro h;rw[h]
    ·intro h
     simp only[AV.agg.injEq]at h
     exact(List.map_inj_right (by intro x y nD;simpa using nD)).1 h
   subst KN
   cases neg
   ·refine .same hh (v:= .bool (AA (.agg cs) (.agg ds))) ?_ (.v _ rfl) (by simpa using hK)
    simp[execOp,ho,dc,Eu,run_eqGuard_agg w .eql t x y vs us Ow,run_eql_struct,p3]
   ·refine .same hh (v:= .bool (!(AA (.agg cs) (.agg ds)))) ?_ (.v _ rfl) (by simpa using hK)
    simp[execOp,ho,dc,Eu,run_eqGuard_agg w .neq t x y vs us Ow,run_neq_struct,p3]
theorem aeD (neg:Bool) (t:TypeId) (x y:Operand) (yt:TypeId) (ho:o.op= .binOp (if neg then .neq else .eql) t x y yt) (hu:P.underlying t=some .bool) (hx:cd x=true) (hy:cd y=true) (hf:eo H a f) (hh:dv H s w)
  (hG:G ⟨P,kp⟩ (.Lc neg x y) f s K):eB P kp o a w H s K:=by
 have hv:=hf.ev x hx
 have fT:=hf.ev y hy
 simp only[G]at hG
 split at hG
 case h_2=>exact hG.elim
 rename_i b c he kB
 rw[he]at hv;rw[kB]at fT
 have eT:=hv.jc;have tB:=fT.jc
 have key:(Op.equalIn 10000 t (.bool b) (.bool c)).run P w= .ok (b==c) w:=run_equalIn_bool' w 9999 t b c hu
 cases neg
 ·exact .same hh (v:= .bool (b==c)) (by simp[execOp,ho,eT,tB,eqGuard,binOp,Op.equal,Op.maxDepth,key]) (.v _ rfl) (by simpa using hG)
 ·exact .same hh (v:= .bool (!(b==c))) (by simp[execOp,ho,eT,tB,eqGuard,binOp,Op.equal,Op.maxDepth,key]) (.v _ rfl) (by simpa using hG)
theorem aeE (neg:Bool) (t:TypeId) (x y:Operand) (yt:TypeId) (ho:o.op= .binOp (if neg then .neq else .eql) t x y yt) (e:TypeId) (hu:P.underlying t=some (.pointer e)) (hx:cd x=true) (hy:cd y=true) (hf:eo H a f) (hh:dv H s w)
  (hG:G ⟨P,kp⟩ (.Ge neg x y) f s K):eB P kp o a w H s K:=by
 have hv:=hf.ev x hx
 have fT:=hf.ev y hy
 have Ty:P.pointee t=e:=by simp[Program.pointee,hu]
 have hu':P.underlying t=some (.pointer (P.pointee t)):=by rw[Ty];exact hu
 have k1: ∀p:Option Addr,(Op.equalIn 10000 t (.pointer p) (.pointer none)).run P w= .ok p.isNone w:=fun p=>run_equalIn_pointer_nil w 9999 t p hu'
 simp only[G]at hG
 split at hG
 ·rename_i l off he kB
  rw[he]at hv;rw[kB]at fT
  have eT:=hv.sL;have tB:=fT.jc
  cases neg
  ·exact .same hh (v:= .bool false) (by simp[execOp,ho,eT,tB,eqGuard,binOp,Op.equal,Op.maxDepth,k1]) (.v _ rfl) hG
  ·exact .same hh (v:= .bool true) (by simp[execOp,ho,eT,tB,eqGuard,binOp,Op.equal,Op.maxDepth,k1]) (.v _ rfl) hG
 ·rename_i cs he kB
  rw[he]at hv;rw[kB]at fT
  have tB:=fT.jc
  generalize dc:a.eval x=xv at hv
  cases hv with
  |eJ b off fW cs db hH hR=>
   cases neg
   ·exact .same hh (v:= .bool false) (by simp[execOp,ho,dc,tB,eqGuard,binOp,Op.equal,Op.maxDepth,k1]) (.v _ rfl) hG
   ·exact .same hh (v:= .bool true) (by simp[execOp,ho,dc,tB,eqGuard,binOp,Op.equal,Op.maxDepth,k1]) (.v _ rfl) hG
 ·rename_i he kB
  rw[he]at hv;rw[kB]at fT
  have eT:=hv.jc;have tB:=fT.jc
  cases neg
  ·exact .same hh (v:= .bool true) (by simp[execOp,ho,eT,tB,eqGuard,binOp,Op.equal,Op.maxDepth,k1]) (.v _ rfl) (by simpa using hG)
  ·exact .same hh (v:= .bool false) (by simp[execOp,ho,eT,tB,eqGuard,binOp,Op.equal,Op.maxDepth,k1]) (.v _ rfl) (by simpa using hG)
 ·exact hG.elim
theorem a9b (g:FuncId) (fn:Func) (args:Array Operand) (Dd:Array TypeId) (ho:o.op= .call {callee:= .value (.func g),args,argTypes:=Dd}) (vU:P.funcs[g]? =some fn) (hb:fn.body.isSome) (De:fn.name≠ "runtime.NumGoroutine")
  (cj: ∀x∈args.toList,cd x=true) (hf:eo H a f) (hh:dv H s w) (hG:G ⟨P,kp⟩ (.bu g args.toList) f s K):eB P kp o a w H s K:=by
 intro Q hQ
 have Sa:dJ H (args.map a.eval) (args.toList.map (ev f)):=by
  refine dJ.lD.2 ⟨by simp,fun j x u hx hu=> ?_⟩
  rw[Array.toList_map,List.getElem?_map]at hx
  rw[List.getElem?_map]at hu
  cases hj:args.toList[j]? with
  |none=>simp[hj]at hx
  |some op=>
   rw[hj]at hx hu
   obtain rfl:a.eval op=x:=by simpa using hx
   obtain rfl:ev f op=u:=by simpa using hu
   exact hf.ev op (cj op (List.mem_of_getElem? hj))
 have hc:=hG (args.map a.eval) w H Sa hh
 have eG:(execOp a.eval o).run P w= .ok (.enter g (args.map a.eval)) w:=by
  cases wZ:fn.body with
  |none=>simp[wZ]at hb
  |some c=>simp[execOp,ho,resolve,Act.eval,Deferred.ofValue,invoke,callFunc,vU,De,wZ]
 unfold Oper.wp
 rw[eG]
 exact hc.mono fun e w' hh=>by
  rcases hh with ⟨v,r,H',s',he,dT,hv,hR⟩|⟨v,r,H',s',he,dT,hv,hR⟩
  ·subst he
   exact⟨v,H',s',r,rfl,dT,hv,hR⟩
  ·subst he
   exact hQ _ _ _ _ _ dT hv hR
end
section
variable {P:Program}{kp:AV→Hp→Prop}{o:Oper}{a:Act}{w:World}{H:PH}{s:Hp}{K:AV→Hp→Prop}{f:Fr}
def valOf (a:Act) (x:Option Operand):Option Value:=x.map a.eval
theorem uZ (hf:eo H a f) {x:Option Operand} (hx:x.all cd=true) {d:Nat}{m:Int} (h:mf f x d=some m):(x=none∧m=d)∨ ∃kk,valOf a x=some (.int kk m):=by
 cases x with
 |none=>left;simp only[mf,Option.some.injEq]at h;exact⟨rfl,h.symm⟩
 |some x=>
  right
  simp only[mf]at h
  split at h
  ·rename_i kk n he
   obtain rfl:=Option.some.inj h
   have:=hf.ev x (by simpa using hx)
   rw[he]at this
   exact⟨kk,by simp[valOf,this.jc]⟩
  ·cases h
theorem Qn (isS:Bool) (len cap:Nat) (lo hi:Option Operand) (l h:Int) (te:(lo=none∧l=0)∨ ∃kk,valOf a lo=some (.int kk l)) (uz:(hi=none∧h=len)∨ ∃kk,valOf a hi=some (.int kk h))
  (h0:0≤l) (h1:l≤h) (h2:h≤len) (hc:len≤cap) (w:World):(Instr.sliceBounds isS len cap (valOf a lo) (valOf a hi) none).run P w= .ok (l.toNat,h.toNat,cap) w:=by
 have eh:(h.toNat:Int)=h:=Int.toNat_of_nonneg (by omega)
 have h3:h≤(cap:Int):=by omega
 have h4:0≤h:=by omega
 have en:valOf a none=none:=rfl
 rcases te with ⟨rfl,rfl⟩|⟨kl,hl⟩<;>rcases uz with ⟨rfl,rfl⟩|⟨kh,hh⟩
 ·simp[Instr.sliceBounds,en]
 ·simp only[Instr.sliceBounds,en,hh]
  simp[run_sliceBound,h3,h4]
 ·simp only[Instr.sliceBounds,en,hl]
  simp[run_sliceBound,h0,h1]
 ·simp only[Instr.sliceBounds,hl,hh]
  simp[run_sliceBound,h0,h1,h3,h4,eh]
theorem aeF (t:TypeId) (x:Operand) (lo hi:Option Operand) (ho:o.op= .slice t x lo hi none) (e:TypeId) (hu:P.underlying t=some (.slice e)) (k:Nat) (hk:(P.info? e).map (·.size)=some k) (hx:cd x=true) (te:lo.all cd=true) (uz:hi.all cd=true)
  (hf:eo H a f) (hh:dv H s w) (hG:G ⟨P,kp⟩ (.pI k x lo hi) f s K):eB P kp o a w H s K:=by
 have hv:=hf.ev x hx
 have eG: ∀(ad:Option Addr) (len cap:Nat) (l h:Int),((lo=none∧l=0)∨ ∃kk,valOf a lo=some (.int kk l))→((hi=none∧h=len)∨ ∃kk,valOf a hi=some (.int kk h))→0≤l→l≤h→h≤len→len≤cap→
   a.eval x= .slice ad len cap→(execOp a.eval o).run P w= .ok (.value (sliced ad l.toNat h.toNat cap k)) w:=by
  intro ad len cap l h e1 e2 h0 h1 h2 hc dc
  have hb:=Qn (P:=P) true len cap lo hi l h e1 e2 h0 h1 h2 hc w
  simp only[valOf]at hb
  cases hq:P.info? e with
  |none=>simp[hq]at hk
  |some ii=>
   have hs:ii.size=k:=by simpa[hq] using hk
   simp[execOp,ho,dc,Instr.sliceAt,Instr.slice,run_underlying hu,hb,sizeOf,typeInfo,hq,hs,sliced]
 simp only[G]at hG
 split at hG
 ·rename_i xs ow he
  rw[he]at hv
  split at hG
  case h_2=>exact hG.elim
  rename_i l h hl vV
  obtain⟨h0,h1,h2,gr,hK⟩:=hG
  have e1:=uZ hf te hl
  have e2:=uZ hf uz vV
  generalize dc:a.eval x=xv at hv
  have FD: ∃ad cap,xv= .slice ad xs.length cap∧xs.length≤cap:=by
   cases hv with
   |jo ad cap=>exact⟨ad,cap,rfl,Nat.zero_le _⟩
   |sl b off len cap k fW xs ow hk hlen ft=>subst hlen;exact⟨_,cap,rfl,ft⟩
  obtain⟨ad,cap,qC,ft⟩:=FD
  have r:=eG ad xs.length cap l h (by simpa using e1) e2 h0 h1 h2 ft (by rw[dc,qC])
  refine .same hh r ?_ hK
  have agn:RV H (sliced ad l.toNat h.toNat cap k) (.sl ((xs.take h.toNat).drop l.toNat) .any):=by
   by_cases SD:l.toNat=h.toNat
   ·have e:(xs.take h.toNat).drop l.toNat= []:=by rw[List.drop_eq_nil_iff];simp;omega
    rw[e,SD]
    unfold sliced
    rw[Nat.sub_self]
    refine .jo _ _ _ (fun hn=> ?_) trivial
    split at hn
    ·omega
    ·cases hv with
     |jo a' eD o' ha=>simp at qC;obtain⟨rfl,rfl⟩:=qC;simp at hn;have:=ha hn;omega
     |sl b off len eD k' fW xs ow hk hlen ft=>simp at qC;obtain⟨rfl,_,rfl⟩:=qC;simp at hn
   ·have bI:xs≠ []:=by rintro rfl;simp at h2;omega
    obtain⟨b,off,eD,k',fW,eT,oR,aoO,BL,db,hH,hR,_⟩:=hv.R0 bI
    rw[qC]at eT
    simp only[Value.slice.injEq]at eT
    obtain⟨rfl,_,rfl⟩:=eT
    obtain rfl:k'=k:=by
     match xs,bI with
     |x0::xs,_=>exact(BL x0 List.mem_cons_self).symm.trans (gr x0 List.mem_cons_self)
    unfold sliced
    rw[if_neg (by omega),Option.map_some,uh]
    have dm: ∀e∈(xs.take h.toNat).drop l.toNat,e.cells.length=k':=fun e he=>BL e (List.mem_of_mem_take (List.mem_of_mem_drop he))
    have ke:flat ((xs.take h.toNat).drop l.toNat)=((flat xs).take (h.toNat*k')).drop (l.toNat*k'):=by
     rw[(sK h.toNat BL).2,(sK l.toNat (fun e he=>BL e (List.mem_of_mem_take he))).1]
    have hlen:((xs.take h.toNat).drop l.toNat).length=h.toNat - l.toNat:=by simp;omega
    refine .sl b _ _ _ k' (fun j=>fW (l.toNat*k'+j)) _ .any oR hlen.symm (by omega) dm (fun c hc=> ?_) (fun j hj=> ?_) (fun j u hu=> ?_) trivial
    ·rw[ke]at hc;exact db c (List.mem_of_mem_take (List.mem_of_mem_drop hc))
    ·rw[Nat.add_assoc]
     refine hH _ ?_
     have:l.toNat*k'+j<h.toNat*k':=by
      have e:h.toNat*k'=l.toNat*k'+(h.toNat - l.toNat)*k':=by rw[←Nat.add_mul];congr 1;omega
      omega
     exact Nat.lt_of_lt_of_le this (Nat.mul_le_mul_right _ (by omega))
    ·rw[ke,List.getElem?_drop,List.getElem?_take]at hu
     split at hu
     ·exact hR _ u hu
     ·cases hu
  unfold RI
  split
  ·simp only[mf,Option.some.injEq]at hl vV
   subst hl;subst vV
   have:(xs.take ((xs.length:Int)).toNat).drop ((0:Nat):Int).toNat=xs:=by simp
   rw[this]
   have hsl:sliced ad ((0:Nat):Int).toNat ((xs.length:Nat):Int).toNat cap k=xv:=by
    rw[qC]
    unfold sliced
    simp
    intro Gf
    cases ad with
    |none=>rfl
    |some ad=>simp[Addr.add]
   rw[hsl];exact hv
  ·exact agn
 ·rename_i l0 off n k' he
  rw[he]at hv
  split at hG
  case h_2=>exact hG.elim
  rename_i l h hl vV
  obtain⟨rfl,h0,h1,h2,h3,hK⟩:=hG
  have e1:=uZ hf te hl
  have e2:=uZ hf uz vV
  generalize dc:a.eval x=xv at hv
  cases hv with
  |gK l0 off n cap k jY ft=>
   have r:=eG _ n cap l h (by simpa using e1) e2 h0 h1 h2 ft dc
   refine .same hh r ?_ hK
   unfold sliced
   rw[if_neg (by omega),Option.map_some,uh]
   exact .gK _ _ _ _ _ jY (by omega)
 ·rename_i l0 n cap k' he
  rw[he]at hv
  split at hG
  case h_2=>exact hG.elim
  rename_i l h hl vV
  obtain⟨rfl,h0,h1,h2,h3,hK⟩:=hG
  have e1:=uZ hf te hl
  have e2:=uZ hf uz vV
  generalize dc:a.eval x=xv at hv
  cases hv with
  |mb l0 n cap k' jY ft=>
   have r:=eG _ n cap l h (by simpa using e1) e2 h0 h1 h2 ft dc
   refine .same hh r ?_ hK
   cases lo with
   |none=>
    simp only[mf,Option.some.injEq]at hl
    subst hl
    simp only[Option.isSome_none,Kp,Bool.false_eq_true,if_false]
    have:sliced (some ⟨l0,0,none⟩) ((0:Nat):Int).toNat h.toNat cap k'= .slice (some ⟨l0,0,none⟩) h.toNat cap:=by
     unfold sliced
     simp[Addr.add]
    rw[this]
    exact .mb _ _ _ _ jY (by omega)
   |some lo=>
    simp only[Option.isSome_some,Kp,if_true]
    have h3:=h3 rfl
    unfold sliced
    rw[if_neg (by omega),Option.map_some,uh,Nat.zero_add]
    exact .gK _ _ _ _ _ jY (by omega)
 ·exact hG.elim
theorem abY (t:TypeId) (x:Operand) (kh km:IntKind) (ho:o.op= .slice t x none (some (.const (.int kh 0))) (some (.const (.int km 0)))) (e:TypeId) (hu:P.underlying t=some (.slice e)) (dP:(P.info? e).isSome) (hx:cd x=true)
  (hf:eo H a f) (hh:dv H s w) (hG:G ⟨P,kp⟩ (.NZ x) f s K):eB P kp o a w H s K:=by
 have hv:=hf.ev x hx
 simp only[G]at hG
 split at hG
 case h_2=>exact hG.elim
 rename_i xs ow he
 rw[he]at hv
 generalize dc:a.eval x=xv at hv
 have FD: ∃ad cap,xv= .slice ad xs.length cap:=by
  cases hv with
  |jo ad cap=>exact⟨ad,cap,rfl⟩
  |sl b off len cap k fW xs ow hk hlen ft=>subst hlen;exact⟨_,cap,rfl⟩
 obtain⟨ad,cap,qC⟩:=FD
 obtain⟨ii,hq⟩:=Option.isSome_iff_exists.1 dP
 subst qC
 have hc: ∀v,a.eval (.const v)=v:=fun _=>rfl
 refine .same hh (v:= .slice ad 0 0) ?_ (.jo ad 0 .zero (fun _=>rfl) (show Own.xG .zero ad 0 from rfl)) hG
 cases ad<;>simp[execOp,ho,dc,hc,Instr.sliceAt,Instr.slice,run_underlying hu,Instr.sliceBounds,run_sliceBound,sizeOf,typeInfo,hq,Addr.add]
theorem abZ (t:TypeId) (x:Operand) (lo hi:Option Operand) (ho:o.op= .slice t x lo hi none) (hu:P.underlying t=some .string) (hx:cd x=true) (te:lo.all cd=true) (uz:hi.all cd=true)
  (hf:eo H a f) (hh:dv H s w) (hG:G ⟨P,kp⟩ (.Io x lo hi) f s K):eB P kp o a w H s K:=by
 have hv:=hf.ev x hx
 simp only[G]at hG
 split at hG
 case h_2=>exact hG.elim
 rename_i b he
 rw[he]at hv
 split at hG
 case h_2=>exact hG.elim
 rename_i l h hl vV
 obtain⟨h0,h1,h2,hK⟩:=hG
 have hb:=Qn (P:=P) (a:=a) false b.size b.size lo hi l h (by simpa using uZ hf te hl) (uZ hf uz vV) h0 h1 h2 (Nat.le_refl _) w
 simp only[valOf]at hb
 exact .same hh (v:= .string (b.extract l.toNat h.toNat)) (by simp[execOp,ho,hv.jc,Instr.sliceAt,Instr.slice,run_underlying hu,hb]) (.v _ rfl) hK
theorem W5 {k n:Nat}{cs:List AV} (hk:0<k) (hn:n*k≤cs.length) (db: ∀c∈cs,c.one=true):(∀e∈nN k n cs,e.cells.length=k)∧flat (nN k n cs)=cs.take (n*k)∧(nN k n cs).length=n:=by
 unfold nN
 split
 ·rename_i h1
  subst h1
  rw[Nat.mul_one]at hn⊢
  have hc: ∀e:AV,e.one=true→e.cells= [e]:=fun e he=>by cases e<;>first|rfl|(simp[AV.one]at he)
  refine⟨fun e he=>by rw[hc e (db e (List.mem_of_mem_take he))];rfl,?_,by simp;omega⟩
  have: ∀l:List AV,(∀e∈l,e.one=true)→flat l=l:=by
   intro l
   induction l with
   |nil=>intro _;rfl
   |cons x l ih=>
    intro h
    simp only[flat,List.flatMap_cons]at ih⊢
    rw[hc x (h x List.mem_cons_self),ih (fun e he=>h e (List.mem_cons_of_mem _ he))]
    rfl
  exact this _ (fun e he=>db e (List.mem_of_mem_take he))
 ·refine⟨fun e he=> ?_,?_,by simp⟩
  ·obtain⟨i,hi,rfl⟩:=List.mem_map.1 he
   have wW:i<n:=List.mem_range.1 hi
   have:(i+1)*k≤n*k:=Nat.mul_le_mul_right _ wW
   simp only[AV.cells,List.length_take,List.length_drop]
   rw[Nat.add_mul]at this
   omega
  ·clear hn
   induction n with
   |zero=>simp[flat]
   |succ n ih=>
    rw[List.range_succ,List.map_append]
    simp only[flat,List.flatMap_append,List.map_cons,List.map_nil,List.flatMap_cons,List.flatMap_nil,List.append_nil,AV.cells]at ih⊢
    rw[ih,Nat.add_mul,Nat.one_mul,List.take_add]
theorem Wo {l:Nat}{cs:List AV} (h:s l=some (.ro cs)):s.set l (.ro cs)=s:=by
 funext l'
 by_cases hl:l'=l
 ·subst hl;rw[Hp.bt,h]
 ·rw[Hp.aX _ _ hl]
theorem Step.ago {l:Nat}{cs:List AV} (hh:dv H s w) (h:s.read l=some cs): ∃H',Step H s w H' (s.set l (.ro cs)) w:=by
 unfold Hp.read at h
 split at h
 ·rename_i c hc;obtain rfl:=Option.some.inj h;exact Step.freeze hh hc
 ·rename_i c hc;obtain rfl:=Option.some.inj h;rw[Wo hc];exact⟨H,.refl hh⟩
 ·rename_i T c hc;obtain rfl:=Option.some.inj h;exact Step.Rj hh (.inr (.inl ⟨T,hc⟩))
 ·rename_i c hc;obtain rfl:=Option.some.inj h;exact Step.Rj hh (.inr (.inr hc))
 ·cases h
theorem ZY (t:TypeId) (x:Operand) (lo hi:Option Operand) (ho:o.op= .slice t x lo hi none) (n:Nat) (e:TypeId) (hu:P.underlying t=some (.array n e)) (k:Nat) (hk:(P.info? e).map (·.size)=some k) (Lk:0<k) (ro:Bool) (hx:cd x=true) (te:lo.all cd=true)
  (uz:hi.all cd=true) (hf:eo H a f) (hh:dv H s w) (hG:G ⟨P,kp⟩ (.BK k n x lo hi ro) f s K):eB P kp o a w H s K:=by
 have hv:=hf.ev x hx
 simp only[G]at hG
 split at hG
 case h_2=>exact hG.elim
 rename_i l off he
 rw[he]at hv
 split at hG
 case h_2=>exact hG.elim
 rename_i lb hb hl vV
 obtain⟨h0,h1,h2,hG⟩:=hG
 split at hG
 case h_2=>exact hG.elim
 rename_i cs dF
 obtain⟨hle,hG⟩:=hG
 have eT:=hv.sL
 have wZ:=Qn (P:=P) (a:=a) false n n lo hi lb hb (by simpa using uZ hf te hl) (uZ hf uz vV) h0 h1 h2 (Nat.le_refl _) w
 simp only[valOf]at wZ
 obtain⟨db,vs,T,fz,BM,hr⟩:=hh.read dF
 have eG:(execOp a.eval o).run P w= .ok (.value (.slice (some (if n=lb.toNat then⟨l,off,none⟩else⟨l,off+lb.toNat*k,none⟩)) (hb.toNat - lb.toNat) (n - lb.toNat))) w:=by
  cases hq:P.info? e with
  |none=>simp[hq]at hk
  |some ii=>
   have hs:ii.size=k:=by simpa[hq] using hk
   simp[execOp,ho,eT,Instr.sliceAt,run_underlying hu,Instr.sureAddr,wZ,sizeOf,typeInfo,hq,hs,uh]
 cases ro with
 |true=>
  simp only[if_true]at hG
  obtain⟨H',dT⟩:=Step.ago hh dF
  refine .value eG dT ?_ hG
  obtain⟨_,jr,T',_,aoP,qA,Ll⟩:=dT.holds.ob l _ (Hp.bt _ _ _)
  have hmul:hb.toNat*k≤n*k:=Nat.mul_le_mul_right _ (by omega)
  have dm:(hb.toNat - lb.toNat)*k+lb.toNat*k=hb.toNat*k:=by rw[←Nat.add_mul];congr 1;omega
  have Sb: ∀c∈cs.drop (off+lb.toNat*k),c.one=true:=fun c hc=>db c (List.mem_of_mem_drop hc)
  obtain⟨g1,g2,g3⟩:=W5 (k:=k) (n:=hb.toNat - lb.toNat) (cs:=cs.drop (off+lb.toNat*k)) Lk (by simp;omega) Sb
  by_cases SD:lb.toNat=hb.toNat
  ·have e:nN k (hb.toNat - lb.toNat) (cs.drop (off+lb.toNat*k))= []:=List.eq_nil_of_length_eq_zero (by rw[g3];omega)
   rw[e,SD,Nat.sub_self]
   exact .jo _ _ _ (fun hn=>by simp at hn) trivial
  ·rw[if_neg (by omega)]
   refine .sl l _ _ _ k (fun j=>jr.getD (off+lb.toNat*k+j) undef) _ .any Lk g3.symm (by omega) g1 (fun c hc=> ?_) (fun j hj=> ?_) (fun j u hu=> ?_) trivial
   ·rw[g2]at hc;exact Sb c (List.mem_of_mem_take hc)
   ·refine Ll _ ?_
    have:=qA.1
    omega
   ·rw[g2,List.getElem?_take]at hu
    split at hu
    ·rw[List.getElem?_drop]at hu
     exact qA.2 _ u hu
    ·cases hu
 |false=>
  simp only[Bool.false_eq_true,if_false]at hG
  refine .same hh eG ?_ hG.2
  rw[if_neg (by omega)]
  exact .gK _ _ _ _ _ Lk (by omega)
theorem Xv (xs:List Value): ∀(i off:Nat) (cells:Array Value),off+i+xs.length≤cells.size→
  (xs.zipIdx i).foldl (fun(cs:Array Value) (p:Value×Nat)=>cs.setIfInBounds (off+p.2) p.1) cells=jW cells (off+i) xs:=by
 induction xs with
 |nil=>intro i off cells h;apply Array.ext';simp[jW]
 |cons x xs ih=>
  intro i off cells h
  simp only[List.length_cons]at h
  rw[List.zipIdx_cons,List.foldl_cons,ih (i+1) off _ (by simp;omega)]
  apply Array.ext'
  simp only[jW,List.toList_toArray,Array.toList_setIfInBounds,List.length_cons]
  have aW:off+i<cells.toList.length:=by simp;omega
  rw[List.set_eq_take_append_cons_drop,if_pos aW]
  have hl:(cells.toList.take (off+i)).length=off+i:=by simp only[List.length_take];omega
  rw[show off+(i+1)=(cells.toList.take (off+i)).length+1 by omega,List.take_length_add_append]
  rw[show(cells.toList.take (off+i)).length+1+xs.length=(cells.toList.take (off+i)).length+(xs.length+1) by omega,List.drop_length_add_append]
  simp only[List.take_succ_cons,List.take_zero,List.append_assoc,List.cons_append,List.nil_append,List.drop_succ_cons,List.drop_drop]
  rw[show off+i+1+xs.length=off+i+(xs.length+1) by omega]
theorem Ye (place:Nat→Option (Nat×Nat)) (H:PH): ∀(parts:List (Nat×Operand)) (res:List (Nat×Nat×Operand)) (vs:Array Value) (cs:List AV) (Kc:List AV→Prop),
  parts.length=res.length→(∀(j:Nat) (p:Nat×Operand) (q:Nat×Nat×Operand),parts[j]? =some p→res[j]? =some q→place p.1=some (q.1,q.2.1)∧p.2=q.2.2∧cd p.2=true∧0<q.2.1)→eo H a f→dJ H vs cs→(∀c∈cs,c.one=true)→yU f cs res Kc→
  ∃jr iX,Instr.fill place vs (parts.map fun p=>(p.1,a.eval p.2))=some jr∧dJ H jr iX∧(∀c∈iX,c.one=true)∧Kc iX
 | [],[],vs,cs,Kc,_,_,_,hr,db,hG=>⟨vs,cs,rfl,hr,db,hG⟩
 |(i,x)::parts,(off,sz,y)::res,vs,cs,Kc,hl,hp,hf,hr,db,hG=>by
  obtain⟨p1,p2,p3,p4⟩:=hp 0 _ _ rfl rfl
  simp only at p1 p2 p3 p4
  subst p2
  obtain⟨g1,g2,g3⟩:=hG
  obtain⟨c1,c2⟩:=(hf.ev x p3).cells (by omega)
  have fK:(a.eval x).cells.size=sz:=by rw[c1.1,g1]
  obtain⟨jr,iX,r1,r2,r3,r4⟩:=Ye place H parts res (jW vs off (a.eval x).cells.toList) (putAt cs off (ev f x).cells) Kc (by simpa using hl) (fun j p q h1 h2=>hp (j+1) p q (by simpa using h1) (by simpa using h2)) hf
   (hr.putAt c1 off (by omega)) (JV db c2 off) g3
  refine⟨jr,iX,?_,r2,r3,r4⟩
  simp only[List.map_cons,Instr.fill,p1]
  have hb:off+(a.eval x).cells.size≤vs.size:=by have:=hr.1;omega
  rw[if_neg (by simp;omega)]
  rw[show(a.eval x).cells.zipIdx.foldl (fun cs (c,j)=>cs.setIfInBounds (off+j) c) vs=jW vs off (a.eval x).cells.toList by
   rw[←Array.foldl_toList,Array.toList_zipIdx]
   have:=Xv (a.eval x).cells.toList 0 off vs (by simpa using hb)
   simpa using this]
  exact r1
theorem aeG (t:TypeId) (parts:Array (Nat×Operand)) (ho:o.op= .build t parts) (place:Nat→Option (Nat×Nat)) (z:Array Value) (res:List (Nat×Nat×Operand))
  (ac0: ∀vs:List (Nat×Value),P.built t vs=Instr.fill place z vs) (db: ∀x∈z.toList,x.oneCell'=true) (hl:parts.toList.length=res.length)
  (hp: ∀(j:Nat) (p:Nat×Operand) (q:Nat×Nat×Operand),parts.toList[j]? =some p→res[j]? =some q→place p.1=some (q.1,q.2.1)∧p.2=q.2.2∧cd p.2=true∧0<q.2.1)
  (hf:eo H a f) (hh:dv H s w) (hG:G ⟨P,kp⟩ (.gf (z.toList.map gS) res) f s K):eB P kp o a w H s K:=by
 obtain⟨jr,iX,r1,r2,r3,r4⟩:=Ye (a:=a) place H parts.toList res z (z.toList.map gS) (fun cs=>K (.agg cs) s) hl hp hf (dJ.CC H z db) (fun c hc=>by obtain⟨x,_,rfl⟩:=List.mem_map.1 hc;exact Br x) hG
 have hb:P.built t (parts.map fun(i,x)=>(i,a.eval x)).toList=some jr:=by rw[ac0,Array.toList_map];exact r1
 exact .same hh (v:= .agg jr) (by simp only[execOp,ho,Sem.run_bind,run_build w t _ _ hb];rfl) (.agg _ _ r3 r2.1 r2.2) r4
theorem R1 {k:Nat} (hk:0<k): ∀(xs:List Operand) (i:Nat) (vs:Array Value) (cs:List AV),(∀x∈xs,cd x=true)→eo H a f→dJ H vs cs→(∀c∈cs,c.one=true)→(∀e∈xs.map (ev f),e.cells.length=k)→cs.length=(i+xs.length)*k→
  ∃jr iX,Instr.fill (fun i=>some (i*k,k)) vs ((xs.zipIdx i).map fun p=>(p.2,a.eval p.1))=some jr∧dJ H jr iX∧(∀c∈iX,c.one=true)∧iX=cs.take (i*k)++flat (xs.map (ev f))
 | [],i,vs,cs,_,_,hr,db,_,hlen=>⟨vs,cs,rfl,hr,db,by simp[flat];rw[List.take_of_length_le (by simp at hlen;omega)]⟩
 |x::xs,i,vs,cs,cj,hf,hr,db,gr,hlen=>by
  have h1:(ev f x).cells.length=k:=gr _ (by simp)
  obtain⟨c1,c2⟩:=(hf.ev x (cj x (by simp))).cells (by omega)
  have fK:(a.eval x).cells.size=k:=by rw[c1.1,h1]
  simp only[List.length_cons]at hlen
  have hle:i*k+k≤cs.length:=by rw[hlen,←Nat.succ_mul];exact Nat.mul_le_mul_right _ (by omega)
  obtain⟨jr,iX,r1,r2,r3,r4⟩:=R1 hk xs (i+1) (jW vs (i*k) (a.eval x).cells.toList) (putAt cs (i*k) (ev f x).cells) (fun y hy=>cj y (by simp[hy])) hf (hr.putAt c1 _ (by omega)) (JV db c2 _)
   (fun e he=>gr e (by simp at he⊢;exact .inr he)) (by rw[rS _ _ _ (by omega),hlen];congr 1;omega)
  refine⟨jr,iX,?_,r2,r3,?_⟩
  ·simp only[List.zipIdx_cons,List.map_cons,Instr.fill]
   have hb:i*k+(a.eval x).cells.size≤vs.size:=by have:=hr.1;omega
   rw[if_neg (by simp;omega)]
   rw[show(a.eval x).cells.zipIdx.foldl (fun cs (c,j)=>cs.setIfInBounds (i*k+j) c) vs=jW vs (i*k) (a.eval x).cells.toList by
    rw[←Array.foldl_toList,Array.toList_zipIdx]
    have:=Xv (a.eval x).cells.toList 0 (i*k) vs (by simpa using hb)
    simpa using this]
   exact r1
  ·rw[r4]
   simp only[putAt,flat,List.map_cons,List.flatMap_cons]
   have mS:(cs.take (i*k)++(ev f x).cells).length=(i+1)*k:=by rw[Nat.add_mul];simp;omega
   rw[←mS,List.take_left,List.append_assoc]
theorem W3 (t:TypeId) (n:Nat) (parts:Array (Nat×Value)) (e:TypeId) (hu:P.underlying t=some (.slice e)) (i:TypeInfo) (hi:P.info? e=some i) (z:Value) (hz:i.zero=some z) (hn:n*i.size≤2^24) (zc:Array Value) (zw:zc=if n*i.size=0 then #[]else z.cells)
  (cells:Array Value) (Sc:Instr.fill (fun j=>some (j*i.size,i.size)) ((Array.range (n*i.size)).map (fun j=>zc[j%zc.size]!)) parts.toList=some cells) (w:World):
  (Instr.buildSlice t n parts).run P w= .ok (.slice (some ⟨w.heap.size,0,none⟩) n n) (w.alloc (.cells cells e)):=by
 have h24: ¬(n*i.size>2^24):=by omega
 have fK:(sizeOf e).run P w= .ok i.size w:=by simp[sizeOf,typeInfo,hi]
 have Lm:(zeroValue e).run P w= .ok z w:=by simp[zeroValue,typeInfo,hi,hz]
 unfold Instr.buildSlice
 simp only[Sem.run_bind,run_underlying hu,Result.andThen_ok,fK]
 rw[if_neg h24]
 by_cases h0:n*i.size=0
 ·rw[if_pos h0]at zw
  subst zw
  simp only[h0,if_true,Sem.run_pure,Result.andThen_ok]
  rw[h0]at Sc
  rw[Sem.run_bind]
  simp only[Sem.run_pure,Result.andThen_ok,Sc]
  rfl
 ·rw[if_neg h0]at zw
  subst zw
  simp only[h0,if_false]
  rw[Sem.run_bind]
  simp only[Lm,Result.andThen_ok]
  rw[Sem.run_bind]
  simp only[Sem.run_pure,Result.andThen_ok,Sc]
  rfl
theorem a0t (t:TypeId) (n:Nat) (parts:Array (Nat×Operand)) (ho:o.op= .buildSlice t n parts) (e:TypeId) (hu:P.underlying t=some (.slice e)) (i:TypeInfo) (hi:P.info? e=some i) (z:Value) (hz:i.zero=some z) (qe:z.cells.size=i.size) (tC: ∀x∈z.cells.toList,x.oneCell'=true)
  (hk:0<i.size) (hn:n*i.size≤2^24) (xs:List Operand) (Nu:parts.toList=(xs.zipIdx 0).map fun p=>(p.2,p.1)) (qU:xs.length=n) (cj: ∀x∈xs,cd x=true)
  (hf:eo H a f) (hh:dv H s w) (hG:G ⟨P,kp⟩ (.gL i.size xs) f s K):eB P kp o a w H s K:=by
 simp only[G]at hG
 obtain⟨gr,hG⟩:=hG
 let zc:Array Value:=if n*i.size=0 then #[]else z.cells
 let base:Array Value:=(Array.range (n*i.size)).map (fun j=>zc[j%zc.size]!)
 have Sd: ∀x∈base.toList,x.oneCell'=true:=by
  intro x hx
  by_cases h0:n*i.size=0
  ·simp[base,h0]at hx
  ·have zw:zc=z.cells:=if_neg h0
   simp only[base,Array.toList_map,List.mem_map]at hx
   obtain⟨j,_,rfl⟩:=hx
   rw[zw]
   have aW:j%z.cells.size<z.cells.size:=Nat.mod_lt _ (by omega)
   rw[getElem!_pos z.cells _ aW]
   exact tC _ (by simp)
 have Df:base.size=n*i.size:=by simp[base]
 obtain⟨jr,iX,r1,r2,r3,r4⟩:=R1 (a:=a) (f:=f) (H:=H) hk xs 0 base (base.toList.map gS) cj hf (dJ.CC H base Sd) (fun c hc=>by obtain⟨x,_,rfl⟩:=List.mem_map.1 hc;exact Br x) gr (by simp[Df,qU])
 simp only[Nat.zero_mul,List.take_zero,List.nil_append]at r4
 have Ln:(parts.map fun(j,x)=>(j,a.eval x)).toList=(xs.zipIdx 0).map fun p=>(p.2,a.eval p.1):=by
  rw[Array.toList_map,Nu,List.map_map];rfl
 have eG:(execOp a.eval o).run P w= .ok (.value (.slice (some ⟨w.heap.size,0,none⟩) n n)) (w.alloc (.cells jr e)):=by
  have:=W3 (P:=P) t n (parts.map fun(j,x)=>(j,a.eval x)) e hu i hi z hz hn zc rfl jr (by rw[Ln];exact r1) w
  simp only[execOp,ho,Sem.run_bind,this]
  rfl
 by_cases h0:xs.length=0
 ·rw[if_pos h0]at hG
  have Dg:n=0:=by omega
  subst Dg
  refine .value eG (H':=H.ext w.heap.size 0 jr) (s':=s) ?_ (.jo _ _ .zero (fun h=>by simp at h) rfl) hG
  have st:=Step.write (w':=w.alloc (.cells jr e)) hh w.heap.size 0 jr e s rfl rfl rfl (by simp) (heap_alloc_new w _) (fun b _ hb=>DS w _ b hb) (.inl rfl)
   (Nat.zero_le _) (fun o v hv=>by rw[hh.xH]at hv;cases hv) (fun l o hl hs=>hs)
   (fun o ho=>by rw[hh.me]at ho;cases ho)
  exact st
 ·rw[if_neg h0]at hG
  have uA:jr.size=n*i.size:=by rw[r2.1,r4,ny gr];simp[qU]
  have st:=Step.write (w':=w.alloc (.cells jr e)) hh w.heap.size (n*i.size) jr e (s.set w.heap.size (.buf i.size xs.length xs.length)) rfl rfl rfl (by simp) (heap_alloc_new w _) (fun b _ hb=>DS w _ b hb) (.inl rfl)
   (by omega) (fun o v hv=>by rw[hh.xH]at hv;cases hv) (fun l o hl hs=>by rw[Hp.aX _ _ hl]at hs;exact hs)
   (fun o ho=>by
    rw[Hp.bt]at ho;obtain rfl:=Option.some.inj ho
    refine⟨hk,Nat.le_refl _,?_,jr,e,heap_alloc_new w _,by rw[uA,qU],fun o ho=> ?_⟩
    ·have:xs.length*1≤n*i.size:=by rw[qU];exact Nat.mul_le_mul_left _ hk
     unfold maxLen;omega
    ·rw[PH.E0 _ _ _ _ (by rw[qU]at ho;omega)];exact hh.xH o)
  refine .value eG st ?_ (hG _ hh.me)
  refine .sl _ _ _ _ i.size (fun j=>jr.getD j undef) _ _ hk (by simp[qU]) (by omega) gr (fun c hc=>r3 c (by rw[r4];exact hc)) (fun j hj=> ?_) (fun j u hu=> ?_) ⟨rfl,rfl,by omega⟩
  ·rw[Nat.zero_add,PH.Fu _ _ _ _ (by omega)]
   simp[show j<jr.size by omega]
  ·exact((r2.2 j u (by rw[r4];exact hu))).mono st.le
theorem ac1 (t:TypeId) (n:Nat) (parts:Array (Nat×Operand)) (ho:o.op= .buildSlice t n parts) (e:TypeId) (hu:P.underlying t=some (.slice e)) (i:TypeInfo) (hi:P.info? e=some i) (z:Value) (hz:i.zero=some z) (qe:z.cells.size=i.size) (tC: ∀x∈z.cells.toList,x.oneCell'=true)
  (hk:0<i.size) (hn:n*i.size≤2^24) (xs:List Operand) (Nu:parts.toList=(xs.zipIdx 0).map fun p=>(p.2,p.1)) (qU:xs.length=n) (cj: ∀x∈xs,cd x=true)
  (hf:eo H a f) (hh:dv H s w) (hG:G ⟨P,kp⟩ (.qw i.size xs) f s K):eB P kp o a w H s K:=by
 simp only[G]at hG
 obtain⟨gr,hG⟩:=hG
 by_cases h0:xs.length=0
 ·rw[if_pos h0]at hG
  refine a0t t n parts ho e hu i hi z hz qe tC hk hn xs Nu qU cj hf hh ?_
  simp only[G]
  exact⟨gr,by rw[if_pos h0];exact hG⟩
 rw[if_neg h0]at hG
 let zc:Array Value:=if n*i.size=0 then #[]else z.cells
 let base:Array Value:=(Array.range (n*i.size)).map (fun j=>zc[j%zc.size]!)
 have Sd: ∀x∈base.toList,x.oneCell'=true:=by
  intro x hx
  by_cases h0:n*i.size=0
  ·simp[base,h0]at hx
  ·have zw:zc=z.cells:=if_neg h0
   simp only[base,Array.toList_map,List.mem_map]at hx
   obtain⟨j,_,rfl⟩:=hx
   rw[zw]
   have aW:j%z.cells.size<z.cells.size:=Nat.mod_lt _ (by omega)
   rw[getElem!_pos z.cells _ aW]
   exact tC _ (by simp)
 have Df:base.size=n*i.size:=by simp[base]
 obtain⟨jr,iX,r1,r2,r3,r4⟩:=R1 (a:=a) (f:=f) (H:=H) hk xs 0 base (base.toList.map gS) cj hf (dJ.CC H base Sd) (fun c hc=>by obtain⟨x,_,rfl⟩:=List.mem_map.1 hc;exact Br x) gr (by simp[Df,qU])
 simp only[Nat.zero_mul,List.take_zero,List.nil_append]at r4
 have Ln:(parts.map fun(j,x)=>(j,a.eval x)).toList=(xs.zipIdx 0).map fun p=>(p.2,a.eval p.1):=by
  rw[Array.toList_map,Nu,List.map_map];rfl
 have eG:(execOp a.eval o).run P w= .ok (.value (.slice (some ⟨w.heap.size,0,none⟩) n n)) (w.alloc (.cells jr e)):=by
  have:=W3 (P:=P) t n (parts.map fun(j,x)=>(j,a.eval x)) e hu i hi z hz hn zc rfl jr (by rw[Ln];exact r1) w
  simp only[execOp,ho,Sem.run_bind,this]
  rfl
 subst qU
 refine .value eG (Step.new hh jr e _ (fun c hc=> ?_) ?_) (.mb _ _ _ _ hk (Nat.le_refl _)) (hG _ hh.me)
 ·exact r3 c (by rw[r4];exact hc)
 ·rw[←r4];exact r2
end
section
variable {P:Program}{kp:AV→Hp→Prop}{o:Oper}{a:Act}{w:World}{H:PH}{s:Hp}{K:AV→Hp→Prop}{f:Fr}
theorem RV.src {x:Value}{ys:List AV}{ow:Own} (h:RV H x (.sl ys ow)) (hh:dv H s w) {k:Nat} (gr: ∀e∈ys,e.cells.length=k) (P:Program):
  ∃news:List Value,Src P w k ys.length x news∧news.length=(flat ys).length∧(∀j u,(flat ys)[j]? =some u→RV H (news.getD j Go.undef) u)∧(∀c∈flat ys,c.one=true):=by
 cases h with
 |jo ad cap ow ha ho=>
  refine⟨[],⟨rfl,?_,?_,by simp⟩,rfl,fun j u hu=>by simp[flat]at hu,fun c hc=>by simp[flat]at hc⟩
  ·cases ad<;>simp[Builtin.firstCells,loadCells,loadCellsFrom]
  ·cases ad<;>simp[Builtin.firstCells,loadCells,loadCellsFrom]
 |sl b off len cap k' fW xs ow hk hlen ft SE db hH hR ho=>
  subst hlen
  cases sZ:ys with
  |nil=>
   subst sZ
   refine⟨[],⟨rfl,?_,?_,by simp⟩,rfl,fun j u hu=>by simp[flat]at hu,fun c hc=>by simp[flat]at hc⟩<;>simp[Builtin.firstCells,loadCells,loadCellsFrom]
  |cons y0 ys0=>
   rw[←sZ]
   have jY:k'=k:=(SE y0 (by simp[sZ])).symm.trans (gr y0 (by simp[sZ]))
   subst jY
   have hlen:(flat ys).length=ys.length*k':=ny gr
   have hc: ∀(w':World),(∀ad,w'.cell? ad=w.cell? ad)→(Builtin.firstCells k' ys.length (.slice (some ⟨b,off,none⟩) ys.length cap)).run P w'= .ok ((List.range (ys.length*k')).map fW).toArray w':=fun w' hw=>by
    refine run_firstCells_some w' k' ys.length ⟨b,off,none⟩ ys.length cap _ (by simp) (fun j v hv=> ?_)
    have hj:j<ys.length*k':=by have:=(List.getElem?_eq_some_iff.1 hv).1;simpa using this
    rw[List.getElem?_map,List.getElem?_range hj]at hv
    obtain rfl:fW j=v:=by simpa using hv
    rw[hw,uh]
    exact hh.ro _ _ _ (hH j hj)
   refine⟨(List.range (ys.length*k')).map fW,⟨rfl,hc w (fun _=>rfl),hc w.drew (fun _=>rfl),by simp⟩,by simp[hlen],fun j u hu=> ?_,db⟩
   have hj:j<ys.length*k':=by rw[←hlen];exact(List.getElem?_eq_some_iff.1 hu).1
   have:=hR j u hu
   simpa[List.getD,hj] using this
theorem Fg (xs ys:List AV):flat (xs++ys)=flat xs++flat ys:=by simp[flat]
theorem uU (x y:Operand) (t xt:TypeId) (ho:o.op= .call {callee:= .builtin .append,args:= #[x,y],argTypes:= #[t,xt]}) {v:Value}{w':World}
  (h:(Builtin.append_ #[t,xt] o.type #[a.eval x,a.eval y]).run P w= .ok v w'):(execOp a.eval o).run P w= .ok (.value v) w':=by
 simp[execOp,ho,resolve,invoke,builtin,h]
theorem aeH (x y:Operand) (t:TypeId) (ho:o.op= .call {callee:= .builtin .append,args:= #[x,y],argTypes:= #[t,t]}) (e:TypeId) (hu:P.underlying t=some (.slice e)) (i:TypeInfo) (hi:P.info? e=some i) (z:Value) (hz:i.zero=some z)
  (qe:z.cells.size=i.size) (hk:0<i.size) (hx:cd x=true) (hy:cd y=true) (hf:eo H a f) (hh:dv H s w) (hG:G ⟨P,kp⟩ (.app i.size i.bytes x y) f s K):eB P kp o a w H s K:=by
 have hv:=hf.ev x hx
 have fT:=hf.ev y hy
 simp only[G]at hG
 split at hG
 case h_2=>exact hG.elim
 rename_i xs ow ys vh he kB
 rw[he]at hv;rw[kB]at fT
 obtain⟨KO,gr,rC,td,hG⟩:=hG
 obtain⟨news,jj,m4,vi,pZ⟩:=fT.src hh gr P
 have tP: ∀u∈news,u.oneCell'=true:=fun u hu=>by
  obtain⟨j,hj⟩:=List.getElem?_of_mem hu
  have aW:j<(flat ys).length:=by rw[←m4];exact(List.getElem?_eq_some_iff.1 hj).1
  have:=vi j _ (List.getElem?_eq_getElem aW)
  rw[List.getD_eq_getElem?_getD,hj]at this
  exact this.zY (pZ _ (List.getElem_mem aW))
 have wM:news.length=ys.length*i.size:=jj.size
 generalize dc:a.eval x=xv at hv
 have newRow: ∀(mB:List Value) (n cap:Nat) (Dh:List AV),Dh.length=n→mB.length=n*i.size→(∀e∈Dh,e.cells.length=i.size)→(∀j u,(flat Dh)[j]? =some u→RV H (mB.getD j undef) u)→(∀c∈flat Dh,c.one=true)→
   n+ys.length≤cap→cap≤maxLen→ ∀s1:Hp,s1.sub s→
   let vs:=mB.toArray++news.toArray++Builtin.zeroCells z.cells (cap -(n+ys.length))
   ∃H',Step H s w H' (s1.set w.heap.size (.buf i.size (n+ys.length) cap)) (w.drew.alloc (.cells vs e))∧RV H' (.slice (some ⟨w.heap.size,0,none⟩) (n+ys.length) cap) (.sl (Dh++ys) (.buf w.heap.size cap)):=by
  intro mB n cap Dh vW qd Lo xe Ox ft a0P s1 pJ vs
  have uA:vs.size=cap*i.size:=by
   simp only[vs,Array.size_append,List.size_toArray,size_zeroCells,qe,qd,wM,←Nat.add_mul]
   congr 1;omega
  have nk:vs.toList=mB++news++(Builtin.zeroCells z.cells (cap -(n+ys.length))).toList:=by simp[vs]
  have hlen:(flat (Dh++ys)).length=(n+ys.length)*i.size:=by rw[ny (k:=i.size)];(simp[vW]);(intro e he;rcases List.mem_append.1 he with h|h;exact Lo e h;exact gr e h)
  have aeI: ∀j u,(flat (Dh++ys))[j]? =some u→RV H (vs.getD j undef) u:=fun j u hu=>by
   rw[Fg]at hu
   have Tz:(flat Dh).length=n*i.size:=by rw[ny Lo,vW]
   rw[Array.getD_eq_getD_getElem?,←Array.getElem?_toList,nk]
   by_cases hj:j<n*i.size
   ·rw[List.getElem?_append_left (by omega)]at hu
    rw[List.append_assoc,List.getElem?_append_left (by omega)]
    have:=xe j u hu
    rwa[List.getD_eq_getElem?_getD]at this
   ·rw[List.getElem?_append_right (by omega),Tz]at hu
    have TA:j - n*i.size<news.length:=by rw[m4];exact(List.getElem?_eq_some_iff.1 hu).1
    rw[List.append_assoc,List.getElem?_append_right (by omega),qd,List.getElem?_append_left TA]
    have:=vi _ u hu
    rwa[List.getD_eq_getElem?_getD]at this
  have hmul:(n+ys.length)*i.size≤cap*i.size:=Nat.mul_le_mul_right _ ft
  have hd:=hh.drew
  have st:=Step.write (w':=w.drew.alloc (.cells vs e)) hd w.heap.size ((n+ys.length)*i.size) vs e (s1.set w.heap.size (.buf i.size (n+ys.length) cap)) rfl rfl rfl (by simp) (heap_alloc_new w.drew _) (fun b _ hb=>DS w.drew _ b hb) (.inl rfl)
   (by omega) (fun o v hv=>by rw[hh.xH]at hv;cases hv) (fun l o hl hs=>by rw[Hp.aX _ _ hl]at hs;exact pJ l o hs)
   (fun o ho=>by
    rw[Hp.bt]at ho;obtain rfl:=Option.some.inj ho
    refine⟨hk,ft,a0P,vs,e,heap_alloc_new w.drew _,uA,fun o ho=> ?_⟩
    rw[PH.E0 _ _ _ _ (by omega)];exact hh.xH o)
  refine⟨_,(Step.drew hh).trans st,?_⟩
  refine .sl _ _ _ _ i.size (fun j=>vs.getD j undef) _ _ hk (by simp[vW]) ft (fun e he=>by rcases List.mem_append.1 he with h|h;exact Lo e h;exact gr e h) (fun c hc=>by
   rw[Fg]at hc
   rcases List.mem_append.1 hc with h|h
   ·exact Ox c h
   ·exact pZ c h) (fun j hj=> ?_) (fun j u hu=>(aeI j u hu).mono st.le) ⟨rfl,rfl,rfl⟩
  rw[Nat.zero_add,PH.Fu _ _ _ _ hj]
  simp[show j<vs.size by omega]
 cases ow with
 |any=>exact hG.elim
 |nil=>
  obtain⟨rfl,hG⟩:=hG
  have qC:xv= .slice none 0 0:=by
   cases hv with
   |jo ad cap ow ha ho=>simp only[Own.xG]at ho;subst ho;rw[ha rfl]
   |sl b off len cap k fW xs ow hk hlen ft gr db hH hR ho=>exact ho.elim
  subst qC
  by_cases Ev:ys= []
  ·subst Ev
   rw[if_pos rfl]at hG
   have Gg:news= []:=List.eq_nil_of_length_eq_zero (by simpa using wM)
   refine .same hh (uU x y t t ho (v:= .slice none 0 0) (w':=w) ?_) (.jo _ _ .nil (fun _=>rfl) rfl) hG
   rw[dc]
   have h1:=jj.len;have h2:=jj.cells
   simp only[List.length_nil]at h1 h2
   simp[Builtin.append_,run_underlying hu,sizeOf,typeInfo,hi,h1,h2]
  ·rw[if_neg Ev]at hG
   have Eo:0<ys.length:=List.length_pos_iff.2 Ev
   have hr:=Fe (P:=P) w t t o.type e i z hu _ hu (.inl ⟨e,rfl⟩) hi hz none 0 0 [] (by simp) (by simp[Builtin.firstCells]) ys.length (a.eval y) news jj (by omega) (by simp only[List.length_nil]at td;omega) (by simpa using rC)
   simp only[Nat.zero_add]at hr
   have qf:=grownCap_ge w ys.length 0 e
   have hle:=grownCap_le_maxLen w ys.length 0 e (by unfold maxLen;simp only[List.length_nil]at td;omega)
   obtain⟨H',st,rv⟩:=newRow [] 0 (grownCap w ys.length 0 e) [] rfl (by simp) (fun e he=>by simp at he) (fun j u hu=>by simp[flat]at hu) (fun c hc=>by simp[flat]at hc) (by omega) hle s (fun _ _ h=>h)
   simp only[Nat.zero_add,List.nil_append]at st rv
   refine .value (uU x y t t ho (by rw[dc];exact hr)) st rv (hG _ _ hh.me)
 |zero=>
  obtain⟨rfl,hG⟩:=hG
  have qC: ∃ad,xv= .slice ad 0 0:=by
   cases hv with
   |jo ad cap ow ha ho=>simp only[Own.xG]at ho;subst ho;exact⟨ad,rfl⟩
   |sl b off len cap k fW xs ow hk hlen ft gr db hH hR ho=>exact ho.elim
  obtain⟨ad,rfl⟩:=qC
  by_cases Ev:ys= []
  ·subst Ev
   rw[if_pos rfl]at hG
   have Gg:news= []:=List.eq_nil_of_length_eq_zero (by simpa using wM)
   refine .same hh (uU x y t t ho (v:= .slice ad 0 0) (w':=w) ?_) (.jo _ _ .zero (fun _=>rfl) rfl) hG
   rw[dc]
   have h1:=jj.len;have h2:=jj.cells
   simp only[List.length_nil]at h1 h2
   subst Gg
   cases ad<;>simp[Builtin.append_,run_underlying hu,sizeOf,typeInfo,hi,h1,h2,storeCells]
  ·rw[if_neg Ev]at hG
   have Eo:0<ys.length:=List.length_pos_iff.2 Ev
   have hr:=Fe (P:=P) w t t o.type e i z hu _ hu (.inl ⟨e,rfl⟩) hi hz ad 0 0 [] (by simp) (by cases ad<;>simp[Builtin.firstCells,loadCells,loadCellsFrom]) ys.length (a.eval y) news jj (by omega) (by simp only[List.length_nil]at td;omega) (by simpa using rC)
   simp only[Nat.zero_add]at hr
   have qf:=grownCap_ge w ys.length 0 e
   have hle:=grownCap_le_maxLen w ys.length 0 e (by unfold maxLen;simp only[List.length_nil]at td;omega)
   obtain⟨H',st,rv⟩:=newRow [] 0 (grownCap w ys.length 0 e) [] rfl (by simp) (fun e he=>by simp at he) (fun j u hu=>by simp[flat]at hu) (fun c hc=>by simp[flat]at hc) (by omega) hle s (fun _ _ h=>h)
   simp only[Nat.zero_add,List.nil_append]at st rv
   refine .value (uU x y t t ho (by rw[dc];exact hr)) st rv (hG _ _ hh.me)
 |buf g c=>
  obtain⟨Gh,hG⟩:=hG
  obtain⟨_,hnc,nS,cur,T,BM,dF,hHn⟩:=hh.ob g _ Gh
  cases hv with
  |jo ad cap ow ha ho=>exact ho.elim
  |sl b off len cap k fW xs ow oR hlen ft Lo Ox hH hR ho=>
   obtain⟨rfl,rfl,rfl⟩:=ho
   subst hlen
   have jY:xs.length*k=xs.length*i.size:=by
    cases qU:xs with
    |nil=>simp
    |cons x0 r=>
     have:k=i.size:=(Lo x0 (by simp[qU])).symm.trans (KO x0 (by simp[qU]))
     rw[this]
   have Ll: ∀j,j<xs.length*i.size→H g j=some (fW j):=fun j hj=>by
    have:=hH j (by rw[jY];exact hj)
    rwa[Nat.zero_add]at this
   have vG: ∀j,j<xs.length*i.size→cur[j]? =some (fW j):=fun j hj=>by
    have:=hh.ro _ _ _ (Ll j hj)
    rw[cell_of_row w g j cur T _ BM]at this
    exact this
   have aoY:xs.length*i.size≤cur.size:=by rw[dF];exact Nat.mul_le_mul_right _ hnc
   by_cases rm:xs.length+ys.length≤c
   ·
    have jB:xs.length*i.size+news.length≤cur.size:=by rw[wM,dF,←Nat.add_mul];exact Nat.mul_le_mul_right _ rm
    have hr:=Qa (P:=P) w t t o.type e i hu _ hu (.inl ⟨e,rfl⟩) hi g xs.length c cur T _ BM (I7 _) ys.length (a.eval y) news jj tP rm jB
    have uA:(jW cur (xs.length*i.size) news).size=cur.size:=by simp[jW];omega
    have nk:(jW cur (xs.length*i.size) news).toList=cur.toList.take (xs.length*i.size)++news++cur.toList.drop (xs.length*i.size+news.length):=by simp[jW]
    have I9: ∀j,j<xs.length*i.size→(jW cur (xs.length*i.size) news)[j]? =some (fW j):=fun j hj=>by
     rw[←Array.getElem?_toList,nk,List.append_assoc,List.getElem?_append_left (by simp;omega),List.getElem?_take_of_lt hj,Array.getElem?_toList]
     exact vG j hj
    have Tz:(flat xs).length=xs.length*i.size:=ny KO
    have st:=Step.write (w':=w.setRow g (jW cur (xs.length*i.size) news)) hh g ((xs.length+ys.length)*i.size) (jW cur (xs.length*i.size) news) T ((s.del g).set g (.buf i.size (xs.length+ys.length) c)) rfl rfl rfl (by simp) (setRow_heap w g cur _ T _ BM)
     (fun b _ hb=>setRow_other w g b _ hb) (.inr (by simp[Gh])) (by rw[uA,Nat.add_mul,←wM];exact jB)
     (fun o v hv=>by
      have aW:o<xs.length*i.size:=by
       rcases Nat.lt_or_ge o (xs.length*i.size)with h|h
       ·exact h
       ·rw[hHn o h]at hv;cases hv
      rw[I9 o aW,←Ll o aW];exact hv)
     (fun l o hl hs=>by rw[Hp.aX _ _ hl,Hp.pY _ hl]at hs;exact hs)
     (fun o ho=>by
      rw[Hp.bt]at ho;obtain rfl:=Option.some.inj ho
      refine⟨hk,rm,nS,_,T,setRow_heap w g cur _ T _ BM,by rw[uA,dF],fun o ho=> ?_⟩
      rw[PH.E0 _ _ _ _ (by omega)]
      refine hHn o (Nat.le_trans ?_ ho)
      exact Nat.mul_le_mul_right _ (by omega))
    refine .value (uU x y t t ho (by rw[dc];exact hr)) st ?_ (hG g c (.inl rfl))
    refine .sl _ _ _ _ i.size (fun j=>(jW cur (xs.length*i.size) news).getD j undef) _ _ hk (by simp) rm (fun e he=>by rcases List.mem_append.1 he with h|h;exact KO e h;exact gr e h) (fun c hc=>by
     rw[Fg]at hc
     rcases List.mem_append.1 hc with h|h
     ·exact Ox c h
     ·exact pZ c h) (fun j hj=> ?_) (fun j u hu=> ?_) ⟨rfl,rfl,rfl⟩
    ·rw[Nat.zero_add,PH.Fu _ _ _ _ hj]
     have:j<(jW cur (xs.length*i.size) news).size:=by rw[uA];rw[Nat.add_mul,←wM]at hj;omega
     simp[this]
    ·refine RV.mono st.le ?_
     rw[Fg]at hu
     by_cases hj:j<xs.length*i.size
     ·rw[List.getElem?_append_left (by omega)]at hu
      rw[Array.getD_eq_getD_getElem?,I9 j hj]
      exact hR j u hu
     ·rw[List.getElem?_append_right (by omega),Tz]at hu
      have TA:j - xs.length*i.size<news.length:=by rw[m4];exact(List.getElem?_eq_some_iff.1 hu).1
      have Di:(cur.toList.take (xs.length*i.size)).length=xs.length*i.size:=by simp;omega
      rw[Array.getD_eq_getD_getElem?,←Array.getElem?_toList,nk,List.append_assoc,List.getElem?_append_right (by omega),Di,List.getElem?_append_left TA]
      have:=vi _ u hu
      rwa[List.getD_eq_getElem?_getD]at this
   ·
    have qd:((List.range (xs.length*i.size)).map fW).length=xs.length*i.size:=by simp
    have BV:(Builtin.firstCells i.size xs.length (.slice (some ⟨g,0,none⟩) xs.length c)).run P w.drew= .ok ((List.range (xs.length*i.size)).map fW).toArray w.drew:=by
     refine run_firstCells_some w.drew i.size xs.length ⟨g,0,none⟩ xs.length c _ qd (fun j v hv=> ?_)
     have hj:j<xs.length*i.size:=by have:=(List.getElem?_eq_some_iff.1 hv).1;simpa using this
     rw[List.getElem?_map,List.getElem?_range hj]at hv
     obtain rfl:fW j=v:=by simpa using hv
     rw[uh,Nat.zero_add]
     exact hh.ro _ _ _ (Ll j hj)
    have hr:=Fe (P:=P) w t t o.type e i z hu _ hu (.inl ⟨e,rfl⟩) hi hz (some ⟨g,0,none⟩) xs.length c _ qd BV ys.length (a.eval y) news jj (by omega) (by omega) rC
    have qf:=grownCap_ge w (xs.length+ys.length) c e
    have hle:=grownCap_le_maxLen w (xs.length+ys.length) c e (by unfold maxLen;omega)
    obtain⟨H',st,rv⟩:=newRow ((List.range (xs.length*i.size)).map fW) xs.length (grownCap w (xs.length+ys.length) c e) xs rfl qd KO (fun j u hu=>by
      have hj:j<xs.length*i.size:=by rw[←ny KO];exact(List.getElem?_eq_some_iff.1 hu).1
      have:=hR j u hu
      simpa[List.getD,hj] using this) Ox qf hle (s.del g) (fun l o hl=>by
      by_cases hlg:l=g
      ·subst hlg;rw[Hp.yK]at hl;cases hl
      ·rw[Hp.pY _ hlg]at hl;exact hl)
    exact .value (uU x y t t ho (by rw[dc];exact hr)) st rv (hG _ _ (.inr hh.me))
theorem N5 {yv:Value}{y:AV} (hv:RV H yv y) (hh:dv H s w) {k m:Nat}{ys:List AV} (h:hU s k y=some (m,ys)) (P:Program):
  ∃news:List Value,Src P w k m yv news∧news.length=ys.length∧(∀j u,ys[j]? =some u→RV H (news.getD j Go.undef) u)∧(∀c∈ys,c.one=true):=by
 have obj: ∀(l off n cap:Nat) (cs:List AV),s.read l=some cs→off+n*k≤cs.length→
   ∃news:List Value,Src P w k n (.slice (some ⟨l,off,none⟩) n cap) news∧news.length=((cs.drop off).take (n*k)).length∧(∀j u,((cs.drop off).take (n*k))[j]? =some u→RV H (news.getD j Go.undef) u)∧(∀c∈(cs.drop off).take (n*k),c.one=true):=by
  intro l off n cap cs dF hle
  obtain⟨db,vs,T,fz,hb,hr⟩:=hh.read dF
  have fK:vs.size=cs.length:=hr.1
  have hlen:((vs.toList.drop off).take (n*k)).length=n*k:=by simp;omega
  have vG: ∀(w':World),(∀ad,w'.cell? ad=w.cell? ad)→(Builtin.firstCells k n (.slice (some ⟨l,off,none⟩) n cap)).run P w'= .ok ((vs.toList.drop off).take (n*k)).toArray w':=fun w' hw=>by
   refine run_firstCells_some w' k n ⟨l,off,none⟩ n cap _ hlen (fun j v hv=> ?_)
   have hj:j<n*k:=by have:=(List.getElem?_eq_some_iff.1 hv).1;omega
   rw[hw,uh,cell_of_row w l (off+j) vs T _ hb]
   rw[List.getElem?_take_of_lt hj,List.getElem?_drop,Array.getElem?_toList]at hv
   exact hv
  refine⟨(vs.toList.drop off).take (n*k),⟨rfl,vG w (fun _=>rfl),vG w.drew (fun _=>rfl),hlen⟩,by simp;omega,fun j u hu=> ?_,fun c hc=>db c (List.mem_of_mem_drop (List.mem_of_mem_take hc))⟩
  have hj:j<n*k:=by have:=(List.getElem?_eq_some_iff.1 hu).1;simp at this;omega
  rw[List.getElem?_take_of_lt hj,List.getElem?_drop]at hu
  have:=hr.2 (off+j) u hu
  have qV:off+j<vs.size:=by have:=(List.getElem?_eq_some_iff.1 hu).1;omega
  rw[List.getD_eq_getElem?_getD,List.getElem?_take_of_lt hj,List.getElem?_drop,Array.getElem?_toList,←Array.getD_eq_getD_getElem?]
  exact this
 unfold hU at h
 split at h
 ·rename_i xs ow
  split at h
  case isFalse=>cases h
  rename_i rr
  simp only[Option.some.injEq,Prod.mk.injEq]at h
  obtain⟨rfl,rfl⟩:=h
  exact hv.src hh (by simpa only[List.all_eq_true,decide_eq_true_eq] using rr) P
 ·split at h
  case h_2=>cases h
  rename_i cs dF
  split at h
  case isFalse=>cases h
  rename_i hc
  simp only[Option.some.injEq,Prod.mk.injEq]at h
  obtain⟨rfl,rfl⟩:=h
  obtain⟨rfl,hle⟩:=hc
  cases hv with
  |mb l n cap k hk ft=>
   have h9:=fun cap=>obj _ 0 _ cap cs dF (by rw[Nat.zero_add];exact hle)
   simp only[List.drop_zero]at h9
   exact h9 _
 ·split at h
  case h_2=>cases h
  rename_i cs dF
  split at h
  case isFalse=>cases h
  rename_i hc
  simp only[Option.some.injEq,Prod.mk.injEq]at h
  obtain⟨rfl,rfl⟩:=h
  obtain⟨rfl,hle⟩:=hc
  cases hv with
  |gK l off n cap k hk ft=>exact obj _ _ _ _ cs dF hle
 ·cases h
theorem Yf {yv:Value}{y:AV} (hv:RV H yv y) (hh:dv H s w) {k m:Nat}{ys:List AV} (h:Ah s k y=some (m,ys)) (P:Program):
  ∃news:List Value,Src P w k m yv news∧news.length=ys.length∧(∀j u,ys[j]? =some u→RV H (news.getD j Go.undef) u)∧(∀c∈ys,c.one=true):=by
 unfold Ah at h
 split at h
 ·rename_i t
  split at h
  case isFalse=>cases h
  rename_i lF
  simp only[Option.some.injEq,Prod.mk.injEq]at h
  obtain⟨rfl,rfl⟩:=h
  subst lF
  obtain rfl:=hv.jc
  have fK:t.data.toList.length=t.size:=by simp
  have BV: ∀w':World,(Builtin.firstCells 1 t.size (.string t)).run P w'= .ok (t.data.toList.map fun b=>Value.int .u8 b.toNat).toArray w':=fun w'=>by
   simp only[Builtin.firstCells,Sem.run_pure]
   have:t.extract 0 t.size=t:=by simp
   rw[this]
   congr 1
   apply Array.ext'
   simp
  refine⟨t.data.toList.map fun b=>Value.int .u8 b.toNat,⟨rfl,BV w,BV w.drew,by simp⟩,by simp,fun j u hu=> ?_,fun c hc=> ?_⟩
  ·rw[List.getElem?_map]at hu
   rw[List.getD_eq_getElem?_getD,List.getElem?_map]
   cases hj:t.data.toList[j]? with
   |none=>simp[hj]at hu
   |some b=>
    rw[hj]at hu
    obtain rfl:bN b=u:=by simpa using hu
    exact .v _ rfl
  ·obtain⟨b,_,rfl⟩:=List.mem_map.1 hc;rfl
 ·exact N5 hv hh h P
theorem Q5 {z:Array Value} (hz: ∀x∈z.toList,x.oneCell'=true) (n:Nat): ∀x∈(Builtin.zeroCells z n).toList,x.oneCell'=true:=by
 intro x hx
 unfold Builtin.zeroCells at hx
 simp only[Array.toList_map,List.mem_map]at hx
 obtain⟨i,hi,rfl⟩:=hx
 have wW:i<n*z.size:=by simpa using hi
 have Eo:0<z.size:=by
  rcases Nat.eq_zero_or_pos z.size with h|h
  ·rw[h]at wW;simp at wW
  ·exact h
 have aW:i%z.size<z.size:=Nat.mod_lt _ Eo
 rw[getElem!_pos z _ aW]
 exact hz _ (by simp)
theorem ZZ (x y:Operand) (t xt:TypeId) (d:TypeDesc) (qz:P.underlying xt=some d) (hd:(∃e',d= .slice e')∨d= .string) (ho:o.op= .call {callee:= .builtin .append,args:= #[x,y],argTypes:= #[t,xt]}) (e:TypeId) (hu:P.underlying t=some (.slice e)) (i:TypeInfo) (hi:P.info? e=some i) (z:Value) (hz:i.zero=some z)
    (qe:z.cells.size=i.size) (tC: ∀x∈z.cells.toList,x.oneCell'=true) (hk:0<i.size) (hx:cd x=true) (hy:cd y=true) (hf:eo H a f) (hh:dv H s w) (hG:G ⟨P,kp⟩ (.nh i.size i.bytes x y) f s K):eB P kp o a w H s K:=by
  have hv:=hf.ev x hx
  have fT:=hf.ev y hy
  simp only[G]at hG
  split at hG
  case h_2=>exact hG.elim
  rename_i m ys xf
  obtain⟨news,jj,m4,vi,pZ⟩:=Yf fT hh xf P
  have tP: ∀u∈news,u.oneCell'=true:=fun u hu=>by
    obtain⟨j,hj⟩:=List.getElem?_of_mem hu
    have aW:j<ys.length:=by rw[←m4];exact(List.getElem?_eq_some_iff.1 hj).1
    have:=vi j _ (List.getElem?_eq_getElem aW)
    rw[List.getD_eq_getElem?_getD,hj]at this
    exact this.zY (pZ _ (List.getElem_mem aW))
  have wM:news.length=m*i.size:=jj.size
  have xY:dJ H news.toArray ys:=dJ.lD.2 ⟨by simpa using m4,fun j xv u il iQ=>by
    have:=vi j u iQ
    simp only[List.toList_toArray]at il
    rw[List.getD_eq_getElem?_getD,il]at this
    exact this⟩
  generalize dc:a.eval x=xv at hv
  have newRow: ∀(mB:List Value) (n cap:Nat) (us:List AV),mB.length=n*i.size→dJ H mB.toArray us→(∀c∈us,c.one=true)→n+m≤cap→
      let vs:=mB.toArray++news.toArray++Builtin.zeroCells z.cells (cap -(n+m))
      ∃sp:List AV,sp.length=(cap -(n+m))*i.size∧Step H s w H (s.set w.heap.size (.cells (us++ys++sp))) (w.drew.alloc (.cells vs e)):=by
    intro mB n cap us qd lh db ft vs
    have zw:=Q5 tC (cap -(n+m))
    have hr:=dJ.CC H _ zw
    refine⟨(Builtin.zeroCells z.cells (cap -(n+m))).toList.map gS,by simp[size_zeroCells,qe],?_⟩
    refine(Step.drew hh).trans (Step.new hh.drew vs e _ (fun c hc=> ?_) ?_)
    · simp only[List.mem_append,List.mem_map]at hc
      rcases hc with (hc|hc)|⟨x,_,rfl⟩
      · exact db c hc
      · exact pZ c hc
      · exact Br x
    · rw[dJ.lD]at lh xY hr⊢
      simp only[List.toList_toArray]at lh xY
      refine⟨by simp only[vs,Array.toList_append,List.length_append,List.toList_toArray,lh.1,xY.1,hr.1],fun j xv u il iQ=> ?_⟩
      simp only[vs,Array.toList_append,List.toList_toArray]at il
      have h2:(mB++news).length=(us++ys).length:=by rw[List.length_append,List.length_append,lh.1,xY.1]
      by_cases h1:j<(mB++news).length
      · rw[List.getElem?_append_left h1]at il
        rw[List.getElem?_append_left (by omega)]at iQ
        by_cases h3:j<mB.length
        · rw[List.getElem?_append_left h3]at il
          rw[List.getElem?_append_left (by omega)]at iQ
          exact lh.2 j xv u il iQ
        · rw[List.getElem?_append_right (by omega)]at il
          rw[List.getElem?_append_right (by omega),←lh.1]at iQ
          exact xY.2 _ xv u il iQ
      · rw[List.getElem?_append_right (by omega)]at il
        rw[List.getElem?_append_right (by omega),←h2]at iQ
        exact hr.2 _ xv u il iQ
  split at hG
  · rename_i xs ow he
    rw[he]at hv
    obtain⟨rfl,Gi,rC,td,hG⟩:=hG
    have qC: ∃ad,xv= .slice ad 0 0∧(ow= .nil→ad=none):=by
      cases hv with
      |jo ad cap ow ha ho=>
        rcases Gi with rfl|rfl
        · simp only[Own.xG]at ho;subst ho;rw[ha rfl];exact⟨none,rfl,fun _=>rfl⟩
        · simp only[Own.xG]at ho;subst ho;exact⟨ad,rfl,fun h=>by cases h⟩
      |sl b off len cap k fW xs ow hk hlen ft gr db hH hR ho=>rcases Gi with rfl|rfl<;>exact ho.elim
    obtain⟨ad,rfl,SF⟩:=qC
    by_cases AF:m=0
    · subst AF
      rw[if_pos rfl]at hG
      have Gg:news= []:=List.eq_nil_of_length_eq_zero (by simpa using wM)
      subst Gg
      have TB:RV H (.slice ad 0 0) (.sl [] ow):=by
        rcases Gi with rfl|rfl
        · rw[SF rfl];exact .jo _ _ .nil (fun _=>rfl) rfl
        · exact .jo _ _ .zero (fun _=>rfl) rfl
      refine .same hh (uU x y t xt ho (v:= .slice ad 0 0) (w':=w) ?_) TB hG
      rw[dc]
      have h1:=jj.len;have h2:=jj.cells
      rcases hd with ⟨e',rfl⟩|rfl<;>cases ad<;>simp[Builtin.append_,run_underlying hu,run_underlying qz,sizeOf,typeInfo,hi,h1,h2,storeCells]
    · rw[if_neg AF]at hG
      have hr:=Fe (P:=P) w t xt o.type e i z hu d qz hd hi hz ad 0 0 [] (by simp) (by cases ad<;>simp[Builtin.firstCells,loadCells,loadCellsFrom]) m (a.eval y) news jj (by omega) (by omega) (by simpa using rC)
      simp only[Nat.zero_add]at hr
      have qf:=grownCap_ge w m 0 e
      have hle:=grownCap_le_maxLen w m 0 e (by unfold maxLen;omega)
      obtain⟨sp,jt,st⟩:=newRow [] 0 (grownCap w m 0 e) [] (by simp) ⟨rfl,fun j u h=>by simp at h⟩ (fun c hc=>by simp at hc) (by omega)
      simp only[Nat.zero_add,List.nil_append]at st jt
      exact .value (uU x y t xt ho (by rw[dc];exact hr)) st (.mb _ _ _ _ hk qf) (hG _ _ sp hh.me qf hle jt)
  · rename_i l n cap k' he
    rw[he]at hv
    have both: ∀(cs:List AV) (mk:List AV→Ob),s.read l=some cs→k'=i.size→cs.length=cap*i.size→(n+m)*i.bytes≤140737488355328→n+m≤9223372036854775807→
        (∀(us:List AV) (zs:Array Value),dJ H zs us→(∀c∈us,c.one=true)→n*i.size+us.length≤cs.length→ ∃vs T fz,w.heap[l]? =some (.cells vs T fz)∧(∀j,j<vs.size→ ¬(fz.1≤j∧j<fz.2))∧vs.size=cs.length∧Step H s w H (s.set l (mk (putAt cs (n*i.size) us))) (w.setRow l (jW vs (n*i.size) zs.toList)))→
        (if n+m≤cap then K (.mb l (n+m) cap i.size) (s.set l (mk (putAt cs (n*i.size) ys)))
           else∀g eD sp,s g=none→n+m≤eD→eD≤maxLen→sp.length=(eD -(n+m))*i.size→K (.mb g (n+m) eD i.size) (s.set g (.cells (cs.take (n*i.size)++ys++sp))))→eB P kp o a w H s K:=by
      clear hG
      intro cs mk dF oR im rC td vJ hG
      subst oR
      obtain⟨db,vs,T,fz,hb,si⟩:=hh.read dF
      have fK:vs.size=cs.length:=si.1
      cases hv with
      |mb l n cap k jY ft=>
        have IM:n*i.size≤cs.length:=by rw[im];exact Nat.mul_le_mul_right _ ft
        by_cases rm:n+m≤cap
        · rw[if_pos rm]at hG
          have jB:n*i.size+ys.length≤cs.length:=by rw[←m4,wM,im,←Nat.add_mul];exact Nat.mul_le_mul_right _ rm
          obtain⟨jr,T',TC,qg,SG,CS,dT⟩:=vJ ys news.toArray xY pZ jB
          have hr:=Qa (P:=P) w t xt o.type e i hu d qz hd hi l n cap jr T' TC qg SG m (a.eval y) news jj tP rm (by rw[CS,m4];exact jB)
          exact .value (uU x y t xt ho (by rw[dc];exact hr)) dT (.mb _ _ _ _ hk rm) hG
        · rw[if_neg rm]at hG
          have qd:(vs.toList.take (n*i.size)).length=n*i.size:=by simp;omega
          have BV:(Builtin.firstCells i.size n (.slice (some ⟨l,0,none⟩) n cap)).run P w.drew= .ok (vs.toList.take (n*i.size)).toArray w.drew:=by
            refine run_firstCells_some w.drew i.size n ⟨l,0,none⟩ n cap _ qd (fun j v hv=> ?_)
            have hj:j<n*i.size:=by have:=(List.getElem?_eq_some_iff.1 hv).1;omega
            rw[uh,Nat.zero_add]
            show w.cell? _= _
            rw[cell_of_row w l j vs T _ hb]
            rw[List.getElem?_take_of_lt hj,Array.getElem?_toList]at hv
            exact hv
          have hr:=Fe (P:=P) w t xt o.type e i z hu d qz hd hi hz (some ⟨l,0,none⟩) n cap _ qd BV m (a.eval y) news jj (by omega) (by omega) rC
          have qf:=grownCap_ge w (n+m) cap e
          have hle:=grownCap_le_maxLen w (n+m) cap e (by unfold maxLen;omega)
          have lh:dJ H (vs.toList.take (n*i.size)).toArray (cs.take (n*i.size)):=by
            rw[dJ.lD]at si⊢
            refine⟨by simp;omega,fun j xv u il iQ=> ?_⟩
            simp only[List.toList_toArray]at il
            have hj:j<n*i.size:=by have:=(List.getElem?_eq_some_iff.1 iQ).1;simp at this;omega
            rw[List.getElem?_take_of_lt hj]at il iQ
            exact si.2 j xv u il iQ
          obtain⟨sp,jt,st⟩:=newRow _ n (grownCap w (n+m) cap e) (cs.take (n*i.size)) qd lh (fun c hc=>db c (List.mem_of_mem_take hc)) qf
          exact .value (uU x y t xt ho (by rw[dc];exact hr)) st (.mb _ _ _ _ hk qf) (hG _ _ sp hh.me qf hle jt)
    split at hG
    · rename_i cs dF
      obtain⟨oR,im,rC,td,hG⟩:=hG
      refine both cs .cells (by simp[Hp.read,dF]) oR im rC td (fun us zs AG Lp Lq=> ?_) hG
      obtain⟨jr,T',qg,CS,dT⟩:=Step.store hh dF (n*i.size) us zs AG Lp Lq
      exact⟨jr,T',_,qg,I7 _,CS,dT⟩
    · rename_i cs dF
      obtain⟨oR,im,rC,td,hG⟩:=hG
      refine both cs .sc (by simp[Hp.read,dF]) oR im rC td (fun us zs AG Lp Lq=> ?_) hG
      obtain⟨jr,T',qg,CS,dT⟩:=Step.ZW hh dF (n*i.size) us zs AG Lp Lq
      exact⟨jr,T',_,qg,a0r _,CS,dT⟩
    · exact hG.elim
  · exact hG.elim
theorem ac2 (x y:Operand) (t xt:TypeId) (d:TypeDesc) (qz:P.underlying xt=some d) (hd:(∃e',d= .slice e')∨d= .string) (ho:o.op= .call {callee:= .builtin .append,args:= #[x,y],argTypes:= #[t,xt]}) (e:TypeId) (hu:P.underlying t=some (.slice e)) (i:TypeInfo) (hi:P.info? e=some i) (z:Value) (hz:i.zero=some z)
    (qe:z.cells.size=i.size) (tC: ∀x∈z.cells.toList,x.oneCell'=true) (hk:0<i.size) (hx:cd x=true) (hy:cd y=true) (hf:eo H a f) (hh:dv H s w) (h1:i.size=1) (tf:i.bytes≤1) (hG:G ⟨P,kp⟩ (.Em e x y) f s K):eB P kp o a w H s K:=by
  have hv:=hf.ev x hx
  have fT:=hf.ev y hy
  simp only[G]at hG
  rw[←h1]at hG
  split at hG
  case h_2=>exact hG.elim
  rename_i m ys xf
  obtain⟨news,jj,m4,vi,pZ⟩:=Yf fT hh xf P
  have tP: ∀u∈news,u.oneCell'=true:=fun u hu=>by
    obtain⟨j,hj⟩:=List.getElem?_of_mem hu
    have aW:j<ys.length:=by rw[←m4];exact(List.getElem?_eq_some_iff.1 hj).1
    have:=vi j _ (List.getElem?_eq_getElem aW)
    rw[List.getD_eq_getElem?_getD,hj]at this
    exact this.zY (pZ _ (List.getElem_mem aW))
  have wM:news.length=m*i.size:=jj.size
  have xY:dJ H news.toArray ys:=dJ.lD.2 ⟨by simpa using m4,fun j xv u il iQ=>by
    have:=vi j u iQ
    simp only[List.toList_toArray]at il
    rw[List.getD_eq_getElem?_getD,il]at this
    exact this⟩
  generalize dc:a.eval x=xv at hv
  have newRow: ∀(mB:List Value) (n cap:Nat) (us:List AV),mB.length=n*i.size→dJ H mB.toArray us→(∀c∈us,c.one=true)→n+m≤cap→
      let vs:=mB.toArray++news.toArray++Builtin.zeroCells z.cells (cap -(n+m))
      ∃sp:List AV,sp.length=(cap -(n+m))*i.size∧Step H s w H (s.set w.heap.size (.tc e (us++ys++sp))) (w.drew.alloc (.cells vs e)):=by
    intro mB n cap us qd lh db ft vs
    have zw:=Q5 tC (cap -(n+m))
    have hr:=dJ.CC H _ zw
    refine⟨(Builtin.zeroCells z.cells (cap -(n+m))).toList.map gS,by simp[size_zeroCells,qe],?_⟩
    refine(Step.drew hh).trans (Step.a0M hh.drew vs e _ (fun c hc=> ?_) ?_)
    · simp only[List.mem_append,List.mem_map]at hc
      rcases hc with (hc|hc)|⟨x,_,rfl⟩
      · exact db c hc
      · exact pZ c hc
      · exact Br x
    · rw[dJ.lD]at lh xY hr⊢
      simp only[List.toList_toArray]at lh xY
      refine⟨by simp only[vs,Array.toList_append,List.length_append,List.toList_toArray,lh.1,xY.1,hr.1],fun j xv u il iQ=> ?_⟩
      simp only[vs,Array.toList_append,List.toList_toArray]at il
      have h2:(mB++news).length=(us++ys).length:=by rw[List.length_append,List.length_append,lh.1,xY.1]
      by_cases h1:j<(mB++news).length
      · rw[List.getElem?_append_left h1]at il
        rw[List.getElem?_append_left (by omega)]at iQ
        by_cases h3:j<mB.length
        · rw[List.getElem?_append_left h3]at il
          rw[List.getElem?_append_left (by omega)]at iQ
          exact lh.2 j xv u il iQ
        · rw[List.getElem?_append_right (by omega)]at il
          rw[List.getElem?_append_right (by omega),←lh.1]at iQ
          exact xY.2 _ xv u il iQ
      · rw[List.getElem?_append_right (by omega)]at il
        rw[List.getElem?_append_right (by omega),←h2]at iQ
        exact hr.2 _ xv u il iQ
  split at hG
  · rename_i xs ow he
    rw[he]at hv
    obtain⟨rfl,Gi,aoZ,hG⟩:=hG
    have rC:m*i.bytes≤140737488355328:=Nat.le_trans (Nat.mul_le_mul_left m tf) (by omega)
    have td:m≤9223372036854775807:=by omega
    have qC: ∃ad,xv= .slice ad 0 0∧(ow= .nil→ad=none):=by
      cases hv with
      |jo ad cap ow ha ho=>
        rcases Gi with rfl|rfl
        · simp only[Own.xG]at ho;subst ho;rw[ha rfl];exact⟨none,rfl,fun _=>rfl⟩
        · simp only[Own.xG]at ho;subst ho;exact⟨ad,rfl,fun h=>by cases h⟩
      |sl b off len cap k fW xs ow hk hlen ft gr db hH hR ho=>rcases Gi with rfl|rfl<;>exact ho.elim
    obtain⟨ad,rfl,SF⟩:=qC
    by_cases AF:m=0
    · subst AF
      rw[if_pos rfl]at hG
      have Gg:news= []:=List.eq_nil_of_length_eq_zero (by simpa using wM)
      subst Gg
      have TB:RV H (.slice ad 0 0) (.sl [] ow):=by
        rcases Gi with rfl|rfl
        · rw[SF rfl];exact .jo _ _ .nil (fun _=>rfl) rfl
        · exact .jo _ _ .zero (fun _=>rfl) rfl
      refine .same hh (uU x y t xt ho (v:= .slice ad 0 0) (w':=w) ?_) TB hG
      rw[dc]
      have h1:=jj.len;have h2:=jj.cells
      rcases hd with ⟨e',rfl⟩|rfl<;>cases ad<;>simp[Builtin.append_,run_underlying hu,run_underlying qz,sizeOf,typeInfo,hi,h1,h2,storeCells]
    · rw[if_neg AF]at hG
      have hr:=Fe (P:=P) w t xt o.type e i z hu d qz hd hi hz ad 0 0 [] (by simp) (by cases ad<;>simp[Builtin.firstCells,loadCells,loadCellsFrom]) m (a.eval y) news jj (by omega) (by omega) (by simpa using rC)
      simp only[Nat.zero_add]at hr
      have qf:=grownCap_ge w m 0 e
      have hle:=grownCap_le_maxLen w m 0 e (by unfold maxLen;omega)
      obtain⟨sp,jt,st⟩:=newRow [] 0 (grownCap w m 0 e) [] (by simp) ⟨rfl,fun j u h=>by simp at h⟩ (fun c hc=>by simp at hc) (by omega)
      simp only[Nat.zero_add,List.nil_append]at st jt
      exact .value (uU x y t xt ho (by rw[dc];exact hr)) st (.mb _ _ _ _ hk qf) (hG _ _ sp hh.me qf hle jt)
  · rename_i l n cap k' he
    rw[he]at hv
    have both: ∀(cs:List AV) (mk:List AV→Ob),s.read l=some cs→k'=i.size→cs.length=cap*i.size→(n+m)*i.bytes≤140737488355328→n+m≤9223372036854775807→
        (∀(us:List AV) (zs:Array Value),dJ H zs us→(∀c∈us,c.one=true)→n*i.size+us.length≤cs.length→ ∃vs T fz,w.heap[l]? =some (.cells vs T fz)∧(∀j,j<vs.size→ ¬(fz.1≤j∧j<fz.2))∧vs.size=cs.length∧Step H s w H (s.set l (mk (putAt cs (n*i.size) us))) (w.setRow l (jW vs (n*i.size) zs.toList)))→
        (if n+m≤cap then K (.mb l (n+m) cap i.size) (s.set l (mk (putAt cs (n*i.size) ys)))
           else∀g eD sp,s g=none→n+m≤eD→eD≤maxLen→sp.length=(eD -(n+m))*i.size→K (.mb g (n+m) eD i.size) (s.set g (.tc e (cs.take (n*i.size)++ys++sp))))→eB P kp o a w H s K:=by
      clear hG
      intro cs mk dF oR im rC td vJ hG
      subst oR
      obtain⟨db,vs,T,fz,hb,si⟩:=hh.read dF
      have fK:vs.size=cs.length:=si.1
      cases hv with
      |mb l n cap k jY ft=>
        have IM:n*i.size≤cs.length:=by rw[im];exact Nat.mul_le_mul_right _ ft
        by_cases rm:n+m≤cap
        · rw[if_pos rm]at hG
          have jB:n*i.size+ys.length≤cs.length:=by rw[←m4,wM,im,←Nat.add_mul];exact Nat.mul_le_mul_right _ rm
          obtain⟨jr,T',TC,qg,SG,CS,dT⟩:=vJ ys news.toArray xY pZ jB
          have hr:=Qa (P:=P) w t xt o.type e i hu d qz hd hi l n cap jr T' TC qg SG m (a.eval y) news jj tP rm (by rw[CS,m4];exact jB)
          exact .value (uU x y t xt ho (by rw[dc];exact hr)) dT (.mb _ _ _ _ hk rm) hG
        · rw[if_neg rm]at hG
          have qd:(vs.toList.take (n*i.size)).length=n*i.size:=by simp;omega
          have BV:(Builtin.firstCells i.size n (.slice (some ⟨l,0,none⟩) n cap)).run P w.drew= .ok (vs.toList.take (n*i.size)).toArray w.drew:=by
            refine run_firstCells_some w.drew i.size n ⟨l,0,none⟩ n cap _ qd (fun j v hv=> ?_)
            have hj:j<n*i.size:=by have:=(List.getElem?_eq_some_iff.1 hv).1;omega
            rw[uh,Nat.zero_add]
            show w.cell? _= _
            rw[cell_of_row w l j vs T _ hb]
            rw[List.getElem?_take_of_lt hj,Array.getElem?_toList]at hv
            exact hv
          have hr:=Fe (P:=P) w t xt o.type e i z hu d qz hd hi hz (some ⟨l,0,none⟩) n cap _ qd BV m (a.eval y) news jj (by omega) (by omega) rC
          have qf:=grownCap_ge w (n+m) cap e
          have hle:=grownCap_le_maxLen w (n+m) cap e (by unfold maxLen;omega)
          have lh:dJ H (vs.toList.take (n*i.size)).toArray (cs.take (n*i.size)):=by
            rw[dJ.lD]at si⊢
            refine⟨by simp;omega,fun j xv u il iQ=> ?_⟩
            simp only[List.toList_toArray]at il
            have hj:j<n*i.size:=by have:=(List.getElem?_eq_some_iff.1 iQ).1;simp at this;omega
            rw[List.getElem?_take_of_lt hj]at il iQ
            exact si.2 j xv u il iQ
          obtain⟨sp,jt,st⟩:=newRow _ n (grownCap w (n+m) cap e) (cs.take (n*i.size)) qd lh (fun c hc=>db c (List.mem_of_mem_take hc)) qf
          exact .value (uU x y t xt ho (by rw[dc];exact hr)) st (.mb _ _ _ _ hk qf) (hG _ _ sp hh.me qf hle jt)
    split at hG
    · rename_i T cs dF
      obtain⟨rfl,oR,im,qh,hG⟩:=hG
      refine both cs (.tc T) (by simp[Hp.read,dF]) oR im (Nat.le_trans (Nat.mul_le_mul_left _ tf) (by omega)) (by omega) (fun us zs AG Lp Lq=> ?_) hG
      obtain⟨jr,qg,CS,dT⟩:=Step.storeT hh dF (n*i.size) us zs AG Lp Lq
      exact⟨jr,T,_,qg,I7 _,CS,dT⟩
    · exact hG.elim
  · exact hG.elim
end
end Go.Av
