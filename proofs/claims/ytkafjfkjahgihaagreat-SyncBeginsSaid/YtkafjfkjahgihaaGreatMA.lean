import Derived.WalkKit
import Derived.Deep.MidRow
import Derived.ChangeKeysEq
import Derived.LaidEql
import Derived.Laws.Cover3
import Derived.WalkSmall
import Derived.Lib.Builder
import Derived.Lib.UnsafeStr
import Derived.MapKept
import Derived.WideKeyRuns
set_option linter.all false
open Option renaming some->β,none->ε
open List renaming replicate->δ,range->χ,length_append->ω,take_of_length_le->Γ,getElem?_eq_some_iff->Ε,drop_eq_getElem_cons->Θ,length->α
open Bool renaming true->ζ,false->θ
open UInt8 renaming ofNat->ν
open BitVec renaming ofInt->π
open Prod renaming fst->Α
abbrev Τ:=List Int
abbrev Υ:=List UInt8
abbrev Φ:=List Nat
abbrev Χ:=List UInt32
def acq{p:Prop}(h:p:=by omega):p:=h
def acr{p:Prop}(h:p:=by simp):p:=h
def acs{p:Prop}(h:p:=by simp;omega):p:=h
def acu{p:Prop}(h:p:=by assumption):p:=h
def acv{p:Prop}(h:p:=by decide):p:=h
def acw{p:Prop}(h:p:=by kernel_rfl):p:=h
def acx{p:Prop}(h:p:=by rfl):p:=h
def σ:=@And.intro
def Β:=@Option.some.inj
def Μ:=@List.getElem?_eq_getElem
def Ο:=@Γ
def Ρ:=@ω
def Ξ:=@Bool.and_eq_true
def a8l:=@List.length_take
def a8m:=@List.length_cons
def Δ:=@Ne.symm
def a8o:=@List.length_map
def a8p:=@Ε
def a8q:=@List.eq_nil_of_length_eq_zero
def a8r:=@List.mem_of_getElem?
def a8s:=@List.length_nil
def a8t:=@Option.some.injEq
def a8u:=@List.mem_append
def a8v:=@List.mem_of_mem_take
def a8w:=@List.append_assoc
def a8x:=@Nat.mul_le_mul_right
def a8y:=@List.nil_append
def a8z:=@List.length_drop
def a8A:=@List.all_eq_true
def a8B:=@List.mem_singleton
def a8C:=@List.map_cons
def a8D:=@List.mem_map
def a8E:=@List.mem_cons
def a8F:=@List.take_length
def a8G:=@Θ
def a8H:=@List.getElem?_map
def a8I:=@List.flatMap_cons
def a8J:=@Nat.zero_add
def a8K:=@List.take_append_drop
def a8L:=@List.getElem_mem
def a8M:=@Nat.zero_le
def a8N:=@Int.toNat_natCast
def a8O:=@List.mem_of_mem_drop
def a8P:=@Nat.le_refl
def a8Q:=@List.getD_cons_zero
def a8R:=@List.pairwise_cons
def a8S:=@List.getElem_of_mem
def a8T:=@List.drop_drop
def a8U:=@Bool.not_false
def a8V:=@List.getD_cons_succ
def a8W:=@Nat.le_trans
def a8X:=@Option.isSome_iff_exists
def a8Y:=@Nat.mul_one
def a8Z:=@List.drop_eq_nil_of_le
def a9a:=@List.flatMap_append
def a9b:=@List.takeWhile_append_dropWhile
def a9c:=@List.getD_eq_getElem?_getD
def a9d:=@Bool.not_true
def a9e:=@List.foldl_cons
def a9f:=@UInt8.toNat_inj
def a9g:=@Array.getD_eq_getD_getElem?
def a9h:=@List.length_pos_iff
def a9i:=@List.map_append
def a9j:=@List.getElem?_take_of_lt
def a9k:=@UInt8.toNat_ofNat'
def a9l:=@Nat.shiftRight_eq_div_pow
def a9m:=@Bool.false_eq_true
def a9n:=@List.not_mem_nil
def a9o:=@Array.getElem?_eq_some_iff
def a9p:=@List.append_nil
def a9q:=@Option.map_some
def a9r:=@List.pairwise_append
def a9s:=@Nat.add_mul
def a9t:=@List.set_eq_take_append_cons_drop
def a9u:=@Prod.mk.injEq
def a9v:=@List.cons_append
def a9w:=@List.take_succ_eq_append_getElem
def a9x:=@List.take_add_one
def a9y:=@Nat.lt_of_lt_of_le
def a9z:=@List.map_nil
def a9A:=@List.drop_succ_cons
def a9B:=@List.take_take
def a9C:=@List.mem_range
def a9D:=@List.sum_cons
def a9E:=@List.drop_of_length_le
def a9F:=@List.drop_take
def a9G:=@List.takeWhile_cons
def a9H:=@List.mem_cons_of_mem
def a9I:=@List.drop_zero
def a9J:=@List.drop_append
def a9K:=@Nat.mod_eq_of_lt
def a9L:=@List.length_singleton
def a9M:=@Bool.not_eq_true'
def a9N:=@Bool.true_and
def a9O:=@List.take_append_of_le_length
def a9P:=@List.drop_append_of_le_length
def a9Q:=@Int.toNat_of_nonneg
def a9R:=@List.map_congr_left
def a9S:=@Array.getElem?_toList
def a9T:=@Nat.min_eq_left
def a9U:=@Bool.or_eq_true
def a9V:=@List.getElem?_cons_zero
def a9W:=@Option.getD_some
def a9X:=@Nat.pow_le_pow_right
def a9Y:=@List.take_zero
def a9Z:=@List.flatten_cons
def aa0:=@List.length_zipWith
def aa1:=@List.getElem?_append_left
def aa2:=@Array.getElem?_eq_getElem
def aa3:=@List.pairwise_iff_getElem
def aa4:=@List.length_replicate
def aa5:=@Option.isSome_none
def aa6:=@List.mem_cons_self
def aa7:=@Nat.mod_lt
def aa8:=@List.getElem?_cons_succ
def aa9:=@Int.eq_ofNat_of_zero_le
def aaa:=@List.foldl_append
def aab:=@Nat.add_zero
def aac:=@List.length_eq_one_iff
def aad:=@Nat.testBit_lt_two_pow
def aae:=@List.map_map
def aaf:=@List.exists_cons_of_ne_nil
def aag:=@List.drop_length
def aah:=@List.mem_append_right
def aai:=@List.mem_or_eq_of_mem_set
def aaj:=@List.eraseIdx_eq_take_drop_succ
def aak:=@Nat.min_self
def aal:=@List.mem_append_left
def aam:=@List.take_left'
def aan:=@List.replicate_succ
def aao:=@List.getElem?_range
def aap:=@Iff.rfl
def aaq:=@Nat.shiftLeft_eq
def aar:=@Bool.false_and
def aas:=@List.foldl_nil
def aat:=@Nat.sub_self
def aau:=@Option.isSome_some
def aav:=@List.append_of_mem
def aaw:=@Nat.xor_lt_two_pow
def aax:=@List.cons.injEq
def aay:=@Nat.eq_of_mul_eq_mul_right
def aaz:=@List.pairwise_map
def aaA:=@Nat.eq_of_testBit_eq
def aaB:=@Array.toList_map
def aaC:=@List.perm_middle
def aaD:=@List.take_succ_cons
def aaE:=@List.dropWhile_cons
def aaF:=@Nat.add_sub_cancel_left
def aaG:=@Bool.eq_iff_iff
def aaH:=@List.drop_left'
def aaI:=@List.length_set
def aaJ:=@Option.map_eq_some_iff
def aaK:=@Nat.shiftLeft_add_eq_or_of_lt
def aaL:=@List.take_left
def aaM:=@Bool.false_xor
def aaN:=@List.drop_left
def aaO:=@List.take_length_add_append
def aaP:=@List.drop_length_add_append
def aaQ:=@List.getElem?_of_mem
def aaR:=@List.flatMap_nil
def aaS:=@List.take_append
def aaT:=@List.getElem?_append_right
def aaU:=@Array.getElem?_append_left
def aaV:=@List.map_drop
def aaW:=@Nat.one_mul
def aaX:=@Nat.div_add_mod
def aaY:=@Nat.div_le_self
def aaZ:=@List.mem_filter
def ab0:=@List.getElem?_drop
def ab1:=@BitVec.toNat_ofNat
def ab2:=@Int.cast_ofNat_Int
def ab3:=@List.sum_nil
def ab4:=@List.filter_append
def ab5:=@List.mem_of_mem_eraseIdx
def ab6:=@Nat.mul_le_mul
def ab7:=@List.length_pos_of_mem
def ab8:=@List.map_take
def ab9:=@List.cons.inj
def aba:=@Array.toList_inj
def abb:=@Option.getD_none
def abc:=@BitVec.toNat_xor
def abd:=@List.flatMap_def
def abe:=@List.append_cons
def abf:=@List.filter_cons
def abg:=@List.any_eq_true
def abh:=@Bool.and_eq_false_iff
def abi:=@List.length_filter_le
def abj:=@Array.getElem?_setIfInBounds_ne
def abk:=@Nat.zero_mul
def abl:=@Nat.succ_mul
def abm:=@Array.eq_empty_of_size_eq_zero
def abn:=@Nat.testBit_xor
def abo:=@List.getElem?_append
def abp:=@Array.length_toList
def abq:=@List.filter_eq_self
def abr:=@Option.map_map
def abt:=@List.mem_filterMap
def abu:=@List.map_replicate
def abv:=@Array.extract_eq_self_of_le
def abw:=@Nat.add_assoc
def abx:=@Nat.testBit_two_pow_add_gt
def aby:=@Int.tdiv_eq_ediv_of_nonneg
def abz:=@Nat.lt_trichotomy
def abA:=@List.nodup_append
def abB:=@List.ext_getElem?
def abC:=@Option.isNone_iff_eq_none
def abD:=@List.mem_flatten
def abE:=@Array.mem_append
def abF:=@List.isEmpty_iff
def abG:=@Nat.add_comm
def abH:=@Int.zero_add
def abI:=@Nat.pow_succ
def abJ:=@List.ext_getElem
def abK:=@Int.sub_zero
def abL:=@List.Pairwise.imp_of_mem
def abM:=@List.getElem_map
def abN:=@Nat.le_mul_of_pos_right
def abO:=@Nat.testBit_mod_two_pow
def abP:=@List.filter_cons_of_neg
def abQ:=@List.filter_cons_of_pos
def abR:=@List.append_inj
def abS:=@List.range_succ
def abT:=@List.filter_nil
def abU:=@Int.le_refl
def abV:=@BitVec.isLt
def abW:=@List.range_succ_eq_map
def abX:=@Nat.le_mul_of_pos_left
def abY:=@List.getElem?_set_self
def abZ:=@List.modify_zero_cons
def ac0:=@List.modify_succ_cons
def ac1:=@Array.getElem?_append
def ac2:=@List.take_succ
def ac3:=@List.getElem?_eq_none
def ac4:=@Nat.add_sub_add_right
def ac5:=@List.singleton_append
def ac6:=@Array.ext'
def ac7:=@Array.getElem?_range
def ac8:=@List.replicate_succ'
def ac9:=@Bool.or_eq_false_iff
def aca:=@Bool.and_true
def acb:=@Bool.false_or
def acd:=@List.drop_nil
def ace:=@Array.toList_zipIdx
def acf:=@Nat.mul_le_mul_left
def acg:=@Nat.testBit_two_pow
def ach:=@List.drop_set_of_lt
def aci:=@Nat.le_of_eq
def acj:=@Nat.mul_comm
def ack:=@Nat.succ_pos
def acm:=@List.all_map
def acn:=@Nat.lt_or_ge
def aco:=@List.map_set
def acp:=@Prod.mk.inj
namespace Go.bD
open Go
inductive Own where
 |any
 |nil
 |zero
 |buf (g cap:Nat)
inductive R where
 |v (x:Value)
 |ptr (l off:Nat)
 |bZ (cs:List R)
 |J (xs:List R) (o:Own)
 |bE (l off len cap k:Nat)
 |aq (l n cap k:Nat)
 |agg (cs:List R)
 |aJ (a:List R)
 |iface (t:TypeId) (x:R)
 |bL (f:Nat) (pre cap:List R)
 |ey (l:Nat)
abbrev Ψ:=List R
def R.cells:R->Ψ
 |.agg cs=>cs
 |.aJ _=>[]
 |a=>[a]
def R.one:R->Bool
 |.agg _=>θ
 |.aJ _=>θ
 |_=>ζ
def flat(a:Ψ):Ψ:=a.flatMap R.cells
abbrev bk:=Nat->Nat->Option Value
def Own.ok(a:Own)(b c d:Nat):Prop:=
 match a with
 |.any=>True
 |.buf h k=>h=b/\c=0/\k=d
 |_=>False
def Own.me(a:Own)(b:Option Addr)(c:Nat):Prop:=
 match a with
 |.any=>True
 |.nil=>b=ε
 |.zero=>c=0
 |.buf _ _=>False
inductive bb(p:bk):Value->R->Prop
 |v (x:Value) (h:x.oneCell'=ζ):bb p x (.v x)
 |ptr (l off:Nat):bb p (.pointer (β ⟨l,off,ε⟩)) (.ptr l off)
 |bZ (b off:Nat) (C:Nat->Value) (cs:Ψ) (E:∀c∈cs,c.one=ζ) (hH:∀d,d<α cs->p b (off+d)=β (C d))
   (D:∀d r,cs[d]?=β r->bb p (C d) r):bb p (.pointer (β ⟨b,off,ε⟩)) (.bZ cs)
 |dn (a:Option Addr) (cap:Nat) (o:Own) (c3:a=ε->cap=0) (L:o.me a cap):bb p (.slice a 0 cap) (.J [] o)
 |J (b off len cap k:Nat) (C:Nat->Value) (xs:Ψ) (o:Own) (hk:0<k) (hlen:len=α xs) (F:len<=cap) (P:∀e∈xs,α e.cells=k)
   (E:∀c∈flat xs,c.one=ζ) (hH:∀d,d<len*k->p b (off+d)=β (C d)) (D:∀d r,(flat xs)[d]?=β r->bb p (C d) r) (L:o.ok b off cap):
   bb p (.slice (β ⟨b,off,ε⟩) len cap) (.J xs o)
 |bE (l off len cap k:Nat) (hk:0<k) (F:len<=cap):bb p (.slice (β ⟨l,off,ε⟩) len cap) (.bE l off len cap k)
 |aq (l n cap k:Nat) (hk:0<k) (F:n<=cap):bb p (.slice (β ⟨l,0,ε⟩) n cap) (.aq l n cap k)
 |agg (z:Array Value) (cs:Ψ) (E:∀c∈cs,c.one=ζ) (G:z.size=α cs) (D:∀d r,cs[d]?=β r->bb p (z.getD d undef) r):bb p (.agg z) (.agg cs)
 |aJ (z:Array Value) (cs:Ψ) (G:z.size=α cs) (D:∀d r,cs[d]?=β r->bb p (z.getD d undef) r):bb p (.tuple z) (.aJ cs)
 |iface (t:TypeId) (x:Value) (y:R) (h:bb p x y):bb p (.iface t x) (.iface t y)
 |bL (f:Nat) (ws z:Array Value) (cM cs:Ψ) (hw:ws.size=α cM) (S:∀d r,cM[d]?=β r->bb p (ws.getD d undef) r) (G:z.size=α cs) (D:∀d r,cs[d]?=β r->bb p (z.getD d undef) r):bb p (.func (.func f) ws z) (.bL f cM cs)
 |ey (l:Nat):bb p (.map (β l)) (.ey l)
def bw(h:bk)(a:Array Value)(b:Ψ):Prop:=a.size=α b/\∀c d,b[c]?=β d->bb h (a.getD c undef) d
def bk.le(c d:bk):Prop:=∀a b v,c a b=β v->d a b=β v
def bk.le.refl(a:bk):a.le a:=λ_ _ _ b=>b
variable{u:bk}
theorem bk.le.trans{a b:bk}(h:u.le a)(k:a.le b):u.le b:=λc d v o=>k c d v (h c d v o)
variable{e6:Value}
def bb.mono{E:bk}(F:u.le E){a:R}(p:bb u e6 a):bb E e6 a:=by
 induction p with
 |v e6 p=>exact .v e6 p
 |ptr b off=>exact .ptr b off
 |bZ r off x cs c hH _ ih=>exact .bZ r off x cs c (λy z=>F _ _ _ (hH y z)) ih
 |dn a cap C c3 D=>exact .dn a cap C c3 D
 |J r off len cap d x xs C hk hlen h G c hH _ D ih=>exact .J r off len cap d x xs C hk hlen h G c (λy z=>F _ _ _ (hH y z)) ih D
 |bE b off len cap d hk h=>exact .bE b off len cap d hk h
 |aq b L cap d hk h=>exact .aq b L cap d hk h
 |agg k cs c o _ ih=>exact .agg k cs c o ih
 |aJ k cs o _ ih=>exact .aJ k cs o ih
 |iface P e6 S _ ih=>exact .iface P e6 S ih
 |bL T ws k cM cs hw _ o _ V ih=>exact .bL T ws k cM cs hw V o ih
 |ey b=>exact .ey b
def bw.mono{a b:bk}(k:a.le b){c:Array Value}{d:Ψ}(h:bw a c d):bw b c d:=⟨h.1,λo p r=>(h.2 o p r).mono k⟩
variable{n b6:R}
def bb.ov(a:bb u e6 n)(b:n.one=ζ):e6.oneCell'=true:=by cases a<;>first|assumption|rfl|(simp[R.one]at b)
theorem bb.undef(a:bk):bb a Go.undef (.aJ []):=.aJ #[] [] rfl (λc d b=>by simp at b)
theorem bb.cells{o:bk}{b:Value}{h:R}(p:bb o b h)(D:0<α h.cells):bw o b.cells h.cells/\∀k∈h.cells,k.one=true:=by
 have r:=p;cases p with
 |agg x cs E y z=>trivial
 |aJ x cs y z=>trivial
 |v b F=>
  refine⟨⟨?_,?_⟩,by intro k c;simp[R.cells]at c;subst c;rfl⟩
  .cases b<;>simp_all [Value.cells,R.cells,Value.oneCell']
  .intro d C a
   match d,a with
   |0,a=>simp[R.cells]at a;subst a;cases b<;>simp_all [Value.cells,Value.oneCell']
   |d+1,a=>trivial
 |_=>
  refine⟨⟨rfl,?_⟩,by intro k c;simp[R.cells]at c;subst c;rfl⟩;intro d C a
  match d,a with
  |0,a=>simp[R.cells]at a;subst a;exact r
  |d+1,a=>simp[R.cells]at a
inductive bt where
 |cells (cs:Ψ)
 |ro (cs:Ψ)
 |buf (k n cap:Nat)
 |it (t:ByteArray) (pos:Nat)
 |mp (es:List (R×R×Nat)) (clock:Nat)
 |jQ (m:Option Nat) (since:Nat) (seen:Φ) (a:Nat)
 |pB (T:TypeId) (cs:Ψ)
 |eW (cs:Ψ)
abbrev U:=Nat->Option bt
def U.set(b:U)(c:Nat)(d:bt):U:=λa=>if a=c then β d else b a
def U.del(b:U)(c:Nat):U:=λa=>if a=c then ε else b a
def U.emp:U:=λ_=>ε
def U.sub(c d:U):Prop:=∀a b,c a=β b->d a=β b
def ow(c:bk)(a:MapEntry)(b:R×R×Nat):Prop:=bb c a.key b.1/\bb c a.val b.2.1/\a.born=b.2.2
def ll(k:bk)(a:Array MapEntry)(b:List (R×R×Nat)):Prop:=a.size=α b/\∀(c:Nat)(d:MapEntry)(h:R×R×Nat),a[c]?=β d->b[c]?=β h->ow k d h
def ll.mono{o p:bk}(r:o.le p){x:Array MapEntry}{y:List (R×R×Nat)}(a:ll o x y):ll p x y:=
 ⟨a.1,λb c d h k=>⟨(a.2 b c d h k).1.mono r,(a.2 b c d h k).2.1.mono r,(a.2 b c d h k).2.2⟩⟩
def ln(d:bk)(h:World)(b:Nat):bt->Prop
 |.cells cs=>(∀k∈cs,k.one=ζ)/\∃a T,h.heap[b]?=β (.cells a T (0,0))/\bw d a cs/\∀c,d b c=ε
 |.ro cs=>(∀k∈cs,k.one=ζ)/\∃a T x,h.heap[b]?=β (.cells a T x)/\bw d a cs/\∀c,c<a.size->d b c=β (a.getD c undef)
 |.buf o p cap=>0<o/\p<=cap/\cap<=maxLen/\∃a T,h.heap[b]?=β (.cells a T (0,0))/\a.size=cap*o/\∀c,p*o<=c->d b c=ε
 |.it y pos=>h.heap[b]?=β (.stringIter y pos)
 |.mp us clock=>∃r,h.heap[b]?=β (.map r clock)/\ll d r us
 |.jQ z since seen C=>h.heap[b]?=β (.mapIter z since seen.toArray C)
 |.eW cs=>(∀k∈cs,k.one=ζ)/\∃a T,h.heap[b]?=β (.cells a T (a.size,a.size+1))/\bw d a cs/\∀c,d b c=ε
 |.pB T cs=>(∀k∈cs,k.one=ζ)/\∃a,h.heap[b]?=β (.cells a T (0,0))/\bw d a cs/\∀c,d b c=ε
structure Holds(a:bk)(c:U)(w:World):Prop where
 ro:∀b o v,a b o=β v->w.cell? ⟨b,o,ε⟩=β v
 cx:∀l o,c l=β o->ln a w l o
structure Step(k:bk)(c:U)(w:World)(h:bk)(d:U)(a:World):Prop where
 holds:Holds h d a
 le:k.le h
 os:a.os=w.os
 tape:a.tape=w.tape
 output:a.output=w.output/\w.drawn<=a.drawn
 size:w.heap.size<=a.heap.size
 block:∀b,b<w.heap.size->c b=ε->a.heap[b]?=w.heap[b]?
 eh:∀b,d b≠ε->c b≠ε\/w.heap.size<=b
 nf:∀b o,h b o≠ε->k b o≠ε\/c b≠ε\/w.heap.size<=b
 jR:∀b cs,b<w.heap.size->c b=β (.ro cs)->a.heap[b]?=w.heap[b]? /\(d b=ε\/∃p,d b=β (.ro p))
def Step.refl{b:bk}{c:U}{d:World}(a:Holds b c d):Step b c d b c d:=
 ⟨a,.refl b,rfl,rfl,⟨rfl,a8P _⟩,a8P _,λ_ _ _=>rfl,λ_ a=>.inl a,λ_ _ a=>.inl a,λ_ _ _ a=>⟨rfl,.inr ⟨_,a⟩⟩⟩
theorem Step.trans{C D E:bk}{F o r:U}{G L P:World}(b:Step C F G D o L)(c:Step D o L E r P):Step C F G E r P where
 holds:=c.holds
 le:=b.le.trans c.le
 os:=c.os.trans b.os
 tape:=c.tape.trans b.tape
 output:=⟨c.output.1.trans b.output.1,a8W b.output.2 c.output.2⟩
 size:=a8W b.size c.size
 block:=λa h x=>by
  have y:o a=none:=by
   cases d:o a with
   |none=>rfl
   |some p=>
     rcases b.eh a (by simp[d])with z|z
     .trivial
     .omega
  rw[c.block a (a9y h b.size) y,b.block a h x]
 eh:=λa h=>by
  rcases c.eh a h with d|d
  .exact b.eh a d
  .exact .inr (a8W b.size d)
 nf:=λa p h=>by
  rcases c.nf a p h with d|d|d
  .exact b.nf a p d
  .exact .inr (b.eh a d)
  .exact .inr (.inr (a8W b.size d))
 jR:=λa T h x=>by
  obtain⟨y,k⟩:=b.jR a T h x;have S:=a9y h b.size;rcases k with k|⟨V,k⟩
  .refine⟨by rw[c.block a S k,y],.inl ?_⟩;cases d:r a with
   |none=>rfl
   |some p=>
     rcases c.eh a (by simp[d])with z|z
     .trivial
     .omega
  .obtain⟨W,e⟩:=c.jR a V S k;simp_all
variable{f s e5:U}{e i v O e0 j6:Nat}{l j3:World}
def Holds.lt(a:Holds u f l){v:Value}(b:u e i=β v):e<l.heap.size:=
 World.block_lt_of_cell? l _ (a.ro e i v b)
def Holds.ng(b:Holds u f l)(a:Nat):u l.heap.size a=none:=by
 cases c:u l.heap.size a with
 |none=>rfl
 |some v=>have:=b.lt c;omega
variable{Z:bt}
theorem ln.lt(a:ln u l e Z):e<l.heap.size:=by
 cases Z with
 |cells cs=>obtain⟨_,c,T,b,_⟩:=a;grind
 |ro cs=>obtain⟨_,c,T,d,b,_⟩:=a;grind
 |buf h k cap=>obtain⟨_,_,_,c,T,b,_⟩:=a;grind
 |it o pos=>exact(a9o.1 a).1
 |mp us clock=>obtain⟨p,b,_⟩:=a;grind
 |jQ r since seen x=>exact(a9o.1 a).1
 |pB T cs=>obtain⟨_,c,b,_⟩:=a;grind
 |eW cs=>obtain⟨_,c,T,b,_⟩:=a;grind
def Holds.eh(a:Holds u f l):f l.heap.size=none:=by
 cases b:f l.heap.size with
 |none=>rfl
 |some v=>have:=(a.cx _ _ b).lt;omega
theorem ln.kept{x:bk}(o:ln u j3 e Z)(r:u.le x)(p:l.heap[e]?=j3.heap[e]?)(L:∀a,x e a≠ε->u e a≠ε):ln x l e Z:=by
 have y:∀a,u e a=ε->x e a=none:=λa z=>by
  grind
 cases Z with
 |cells cs=>obtain⟨c,d,T,b,h,k⟩:=o;exact⟨c,d,T,by rw[p];exact b,h.mono r,λa=>y a (k a)⟩
 |ro cs=>obtain⟨c,d,T,C,b,h,k⟩:=o;exact⟨c,d,T,C,by rw[p];exact b,h.mono r,λa z=>r _ _ _ (k a z)⟩
 |buf P S cap=>obtain⟨c,D,E,d,T,b,h,k⟩:=o;exact⟨c,D,E,d,T,by rw[p];exact b,h,λa z=>y a (k a z)⟩
 |it V pos=>exact by show l.heap[e]?= _;rw[p];exact o
 |mp us clock=>obtain⟨F,b,G⟩:=o;exact⟨F,by rw[p];exact b,G.mono r⟩
 |jQ W since seen f=>exact by show l.heap[e]?= _;rw[p];exact o
 |pB T cs=>obtain⟨c,d,b,h,k⟩:=o;exact⟨c,d,by rw[p];exact b,h.mono r,λa=>y a (k a)⟩
 |eW cs=>obtain⟨c,d,T,b,h,k⟩:=o;exact⟨c,d,T,by rw[p];exact b,h.mono r,λa=>y a (k a)⟩
def Holds.drop(a:Holds u f l)(d:s.sub f):Holds u s l:=⟨a.ro,λb c h=>a.cx b c (d b c h)⟩
theorem Step.drop{o p:bk}{r x c:U}{y z:World}(a:Step o r y p x z)(d:c.sub x):Step o r y p c z where
 holds:=a.holds.drop d
 le:=a.le
 os:=a.os
 tape:=a.tape
 output:=a.output
 size:=a.size
 block:=a.block
 eh:=λb C=>a.eh b (by
  cases h:c b with
  |none=>trivial
  |some k=>simp[d b k h])
 nf:=a.nf
 jR:=λb D C h=>by
  obtain⟨E,G⟩:=a.jR b D C h;refine⟨E,?_⟩;cases F:c b with
  |none=>simp
  |some k=>have L:=d b k F;simp_all
def Holds.drew{a:bk}{b:U}{c:World}(d:Holds a b c):Holds a b c.drew:=⟨d.ro,λh k o=>by
 have:=d.cx h k o;trivial⟩
def Step.drew{b:bk}{c:U}{d:World}(a:Holds b c d):Step b c d b c d.drew:=
 ⟨a.drew,.refl b,rfl,rfl,⟨rfl,Nat.le_succ _⟩,a8P _,λ_ _ _=>rfl,λ_ a=>.inl a,λ_ _ a=>.inl a,λ_ _ _ a=>⟨rfl,.inr ⟨_,a⟩⟩⟩
def up(b:R->U->Prop):R->U->Prop:=λv c=>∃a,a.sub c/\b v a
def hQ(x:Program)(y:FuncId)(z:Ψ)(k:U)(C D:R->U->Prop):Prop:=
 ∀(o:Array Value)(d:World)(h:bk),bw h o z->Holds h k d->
  Calls x y o d λp r=>(∃v a b c,p=.returned v/\Step h k d b c r/\bb b v a/\C a c)\/
   (∃v a b c,p=.panicked [{v,recovered:=θ}]/\Step h k d b c r/\bb b v a/\D a c)
theorem hQ.mono{c:Program}{d:FuncId}{h:Ψ}{k:U}{o p r x:R->U->Prop}(y:hQ c d h k o r)(G:∀a b,o a b->p a b)(L:∀a b,r a b->x a b):hQ c d h k p x:=
 λz C D E F=>(y z C D E F).mono λ_ _ P=>by
  grind
def AC(p:Program)(r:FuncId)(x:Ψ)(c:U)(y:R->U->Prop):Prop:=
 ∀(d:Array Value)(a:World)(b:bk),bw b d x->Holds b c a->
  Calls p r d a λz C=>∃v h k o,z=.returned v/\Step b c a k o C/\bb k v h/\y h o
variable{q Y:R -> U -> Prop}{b5:FuncId}{g B e1:Ψ}{m:Program}
def AC.p(a:AC m b5 g f q):hQ m b5 g f q Y:=
 λb c d h k=>(a b c d h k).mono λ_ _ o=>.inl o
def hQ.IK(b:hQ m b5 g f q (up λ_ _=>False)):AC m b5 g f q:=
 λc d h k o=>(b c d h k o).mono λ_ _ a=>by
  rcases a with a|⟨v,p,r,x,y,z,C,_,_,D⟩
  .exact a
  .trivial
def AC.mono{c:Program}{d:FuncId}{h:Ψ}{k:U}{o p:R->U->Prop}(r:AC c d h k o)(x:∀a b,o a b->p a b):AC c d h k p:=
 λy z C D E=>(r y z C D E).mono λ_ _ ⟨v,a,F,b,G,L,P,S⟩=>⟨v,a,F,b,G,L,P,x _ _ S⟩
def Shift(k:Ψ)(c:U)(o:Ψ)(p:U):Prop:=
 ∀(d:Array Value)(a:World)(b:bk),bw b d k->Holds b c a->∃h,bw h d o/\Step b c a h p a
def AC.pre(d:AC m b5 B f q)(h:Shift g s B f):AC m b5 g s q:=
 λa b k o p=>by
  obtain⟨r,x,c⟩:=h a b k o p;exact(d a b r x c.holds).mono λ_ _ ⟨v,y,z,f,C,D,E,F⟩=>⟨v,y,z,f,C,c.trans D,E,F⟩
def U.ox(b c:U):Prop:=∀a,b a=ε\/c a=ε
def U.join(b c:U):U:=λa=>(b a).or (c a)
def U.nh(a:f e=β Z):(f.join s) e=β Z:=by simp[U.join,a]
def U.oy(a:f e=ε):(f.join s) e=s e:=by simp[U.join,a]
def Step.frame{z:bk}{t:U}(c:Step u f l z s j3)(C:f.ox t)(L:Holds u (f.join t) l):
  Step u (f.join t) l z (s.join t) j3/\s.ox t:=by
 have D:∀b d,t b=β d->f b=ε/\ln u l b d:=λb d r=>by
  have a:=(C b).resolve_right (by simp[r]);exact⟨a,L.cx b d (by rw[U.oy a];exact r)⟩
 have E:s.ox t:=λb=>by
  cases r:t b with
  |none=>simp
  |some d=>
   left;obtain⟨y,o⟩:=D b d r;cases a:s b with
   |none=>rfl
   |some F=>
     rcases c.eh b (by simp[a])with p|p
     .trivial
     .have:=o.lt;omega
 refine⟨⟨⟨c.holds.ro,λb d r=>?_⟩,c.le,c.os,c.tape,c.output,c.size,λh x a=>?_,λh x=>?_,λh d x=>?_,λh G x a=>?_⟩,E⟩
 .cases a:s b with
  |some F=>rw[U.nh a]at r;obtain rfl:=Β r;exact c.holds.cx b F a
  |none=>
   rw[U.oy a]at r;obtain⟨y,o⟩:=D b d r;refine o.kept c.le (c.block b o.lt y) λP S=>?_;rcases c.nf b P S with p|p|p
   .exact p
   .trivial
   .have:=o.lt;omega
 .exact c.block h x (by
   cases k:f h with
   |none=>rfl
   |some d=>rw[U.nh k]at a;cases a)
 .cases a:s h with
  |some d=>
   rcases c.eh h (by simp[a])with p|p
   .left;cases k:f h with
    |none=>trivial
    |some d=>simp[U.nh k]
   .omega
  |none=>
   rw[U.oy a]at x;left;cases k:f h with
   |some d=>simp[U.nh k]
   |none=>rw[U.oy k];exact x
 .rcases c.nf h d x with p|p|p
  .exact .inl p
  .right;left;cases k:f h with
   |none=>trivial
   |some d=>simp[U.nh k]
  .omega
 .cases k:f h with
  |some d=>
   rw[U.nh k]at a;obtain rfl:=Β a;obtain⟨y,o⟩:=c.jR h G x k;refine⟨y,?_⟩;rcases o with o|⟨T,o⟩
   .rw[U.oy o];left;exact(C h).resolve_left (by simp[k])
   .exact .inr ⟨T,U.nh o⟩
  |none=>rw[U.oy k]at a;refine⟨c.block h x k,.inr ⟨G,?_⟩⟩;rw[U.oy ((E h).resolve_right (by simp[a]))];exact a
def U.Bt(a b:U):a.sub (a.join b):=λ_ _ c=>U.nh c
def AC.frame{h:Program}{k:FuncId}{o:Ψ}{b t:U}{p:R->U->Prop}(y:AC h k o b p)(r:b.ox t):
  AC h k o (b.join t) λc z=>∃a,p c a/\a.ox t/\z=a.join t:=
 λC D E F d=>(y C D E F (d.drop (U.Bt b t))).mono λ_ _ ⟨v,c,G,a,L,x,P,S⟩=>
  ⟨v,c,G,a.join t,L,(x.frame r d).1,P,a,S,(x.frame r d).2,rfl⟩
def hQ.frame{y:Program}{z:FuncId}{C:Ψ}{c t:U}{D E:R->U->Prop}(F:hQ y z C c D (up E))(k:c.ox t):
  hQ y z C (c.join t) (λb G=>∃a,D b a/\a.ox t/\G=a.join t) (up E):=
 λL P S T d=>(F L P S T (d.drop (U.Bt c t))).mono λ_ _ V=>by
  rcases V with⟨v,b,o,a,p,h,r,x⟩|⟨v,b,o,a,p,h,r,W,e,x⟩
  .exact .inl ⟨v,b,o,a.join t,p,(h.frame k d).1,r,a,x,(h.frame k d).2,rfl⟩
  .exact .inr ⟨v,b,o,a.join t,p,(h.frame k d).1,r,W,λf g i=>U.nh (e f g i),x⟩
theorem qN(a:World)(c:Obj)(b:Nat)(d:b≠a.heap.size):(a.alloc c).heap[b]?=a.heap[b]? :=by show(a.heap.push c)[b]?= _;grind
theorem U.aj(c:U)(a:Nat)(b:bt):(c.set a b) a=β b:=by simp[U.set]
theorem U.an(a:U)(b:bt)(c:e≠i):(a.set i b) e=a e:=by simp[U.set,c]
theorem U.iD(b:U)(a:Nat):(b.del a) a=none:=by simp[U.del]
theorem U.eO(a:U)(b:e≠i):(a.del i) e=a e:=by simp[U.del,b]
def bk.ext(c:bk)(d h:Nat)(k:Array Value):bk:=λb a=>if b=d/\a<h then k[a]? else c b a
theorem bk.pC(d:bk)(a b:Nat)(c:Array Value)(h:e<b):(d.ext a b c) a e=c[e]? :=by simp[bk.ext,h]
theorem bk.pD(a:bk)(b c:Nat)(d:Array Value)(h:¬(e=b/\i<c)):(a.ext b c d) e i=a e i:=by simp[bk.ext,h]
theorem Step.write{T:Nat×Nat}(z:Holds u f l)(c o:Nat)(k:Array Value)(V:TypeId)(r:U)
  (W:j3.os=l.os) (e:j3.tape=l.tape) (x:(j3.output,j3.drawn)=(l.output,l.drawn)) (g:l.heap.size<=j3.heap.size)
  (i:j3.heap[c]?=β (.cells k V T)) (C:∀a,a<l.heap.size->a≠c->j3.heap[a]?=l.heap[a]?)
  (B:c=l.heap.size\/(f c≠ε/\∀D,f c≠β (.ro D)))
  (H:o<=k.size) (j:∀b v,u c b=β v->k[b]?=β v)
  (m:∀h b,h≠c->r h=β b->f h=β b)
  (n:∀b,r c=β b->ln (u.ext c o k) j3 c b):Step u f l (u.ext c o k) r j3:=by
 have E:u.le (u.ext c o k):=λa b v p=>by
  by_cases d:a=c/\b<o
  .obtain⟨rfl,q⟩:=d;rw[bk.pC _ _ _ _ q];exact j b v p
  .rw[bk.pD _ _ _ _ d];exact p
 have F:∀a,a≠c->∀y,(u.ext c o k) a y=u a y:=λa d y=>bk.pD _ _ _ _ (λs=>d s.1);have x:j3.output=l.output/\l.drawn<=j3.drawn:=⟨congrArg Α x,aci (congrArg Prod.snd x).symm⟩;refine⟨⟨λa b v p=>?_,λh b G=>?_⟩,E,W,e,x,g,λa d t=>?_,λa d=>?_,λa b d=>?_,λa D d t=>?_⟩
 .by_cases d:a=c
  .subst d;simp only[World.cell?,i,aa5,a9m,if_false];grind[bk.pC,bk.pD]
  .rw[F a d]at p;have:=z.ro a b v p;have w:=z.lt p;rw[<-this];exact World.cell?_of_block (C a w d)
 .by_cases d:h=c
  .subst d;exact n b G
  .have L:=z.cx h b (m h b d G);exact L.kept E (C h L.lt d) (λy P=>by rw[F h d]at P;exact P)
 grind
 .by_cases S:a=c;grind
  .left;cases A:r a with
   |none=>trivial
   |some b=>simp_all
 grind
 .have S:a≠c:=by grind
  refine⟨C a d S,?_⟩;cases A:r a with
  |none=>simp
  |some b=>simp_all
def bk.qO(a:bk)(b:Nat)(c:Array Value):a.ext b 0 c=a:=by funext d h;simp[bk.ext]
def Step.new(d:Holds u f l)(a:Array Value)(b:TypeId)(c:Ψ)(r:∀x∈c,x.one=ζ)(y:bw u a c):
  Step u f l u (f.set l.heap.size (.cells c)) (l.alloc (.cells a b)):=by
 have:=Step.write (j3:=l.alloc (.cells a b)) d l.heap.size 0 a b (f.set l.heap.size (.cells c)) rfl rfl rfl acr (heap_alloc_new l _) (λz _ C=>qN l _ z C) (.inl rfl)
  (a8M _) (λh v k=>by rw[d.ng]at k;cases k) (λE h D o=>by rw[U.an _ _ D]at o;exact o)
  (λh p=>by
   rw[U.aj]at p;obtain rfl:=Β p;rw[bk.qO];exact⟨r,a,b,heap_alloc_new l _,y,d.ng⟩)
 rwa[bk.qO]at this
def putAt(a:Ψ)(b:Nat)(c:Ψ):Ψ:=a.take b++c++a.drop (b+α c)
theorem eF(a:Ψ)(b:Nat)(c:Ψ)(d:b+α c<=α a):(putAt a b c).length=α a:=by simp[putAt];omega
def dh(a:Array Value)(b:Nat)(c:List Value):Array Value:=(a.toList.take b++c++a.toList.drop (b+α c)).toArray
theorem bw.ed{c:Array Value}:bw u c g↔α c.toList=α g/\∀(a:Nat)(h:Value)(b:R),c.toList[a]?=β h->g[a]?=β b->bb u h b:=by
 constructor
 .rintro⟨o,k⟩;refine⟨by trivial,λa h b r d=>?_⟩;have:=k a b d;simp_all
 .rintro⟨o,k⟩;refine⟨by trivial,λa b d=>?_⟩;have x:=(a8p.1 d).1;have p:a<c.size:=by simp at o;omega
  refine k a _ b ?_ d;simp[p]
theorem bw.putAt{a:bk}{h:Array Value}{b c:Ψ}{k:Array Value}(o:bw a h b)(p:bw a k c)(d:Nat)(r:d+α c<=α b):
  bw a (dh h d k.toList) (putAt b d c):=by
 grind[bw.ed,dh,Go.bD.putAt,ω,List.length_take,List.length_drop,List.append_assoc,List.getElem?_append_left]
theorem ur(c:∀a∈g,a.one=ζ)(d:∀a∈B,a.one=ζ)(b:Nat):∀a∈putAt g b B,a.one=true:=by grind[putAt,List.mem_of_mem_take,List.mem_of_mem_drop]
theorem bw.ov{k:bk}{c:Array Value}{a:Ψ}(o:bw k c a)(p:∀r∈a,r.one=ζ):∀b∈c.toList,b.oneCell'=true:=by
 intro b x;obtain⟨d,y⟩:=aaQ x;obtain⟨C,z⟩:=bw.ed.1 o;have h:d<α a:=by grind
 exact(z d b _ y (Μ h)).ov (p _ (a8L h))
def Step.store(k:Holds u f l)(o:f e=β (.cells g))(b:Nat)(c:Ψ)(d:Array Value)(D:bw u d c)
  (E:∀F∈c,F.one=ζ) (G:b+α c<=α g):
  ∃a T,l.heap[e]?=β (.cells a T (0,0))/\a.size=α g/\Step u f l u (f.set e (.cells (putAt g b c))) (l.setRow e (dh a b d.toList)):=by
 obtain⟨L,a,T,h,p,r⟩:=k.cx e _ o;refine⟨a,T,h,p.1,?_⟩;have:=Step.write (j3:=l.setRow e (dh a b d.toList)) k e 0 (dh a b d.toList) T (f.set e (.cells (putAt g b c))) rfl rfl rfl acr (setRow_heap l e a _ T _ h)
  (λP _ S=>setRow_other l e P _ S) (.inr (by simp[o])) (a8M _) (λx v y=>by rw[r]at y;cases y) (λW x V z=>by rw[U.an _ _ V]at z;exact z)
  (λx C=>by
   rw[U.aj]at C;obtain rfl:=Β C;rw[bk.qO];exact⟨ur L E b,_,T,setRow_heap l e a _ T _ h,p.putAt D b G,r⟩)
 rwa[bk.qO]at this
def IM(a:Array Value)(b:Nat)(c:List Value)(d:b+α c<=a.size):(dh a b c).size=a.size:=by simp[dh];omega
def Step.IN(o:Holds u f l)(p:f e=β (.eW g))(b:Nat)(c:Ψ)(d:Array Value)(r:bw u d c)
  (F:∀G∈c,G.one=ζ) (x:b+α c<=α g):
  ∃a T,l.heap[e]?=β (.cells a T (a.size,a.size+1))/\a.size=α g/\Step u f l u (f.set e (.eW (putAt g b c))) (l.setRow e (dh a b d.toList)):=by
 obtain⟨L,a,T,h,k,y⟩:=o.cx e _ p;refine⟨a,T,h,k.1,?_⟩;have P:α d.toList=α c:=by have:=r.1;trivial
 have S:=IM _ _ _ (by rw[P,k.1];exact x);have:=Step.write (j3:=l.setRow e (dh a b d.toList)) o e 0 (dh a b d.toList) T (f.set e (.eW (putAt g b c))) rfl rfl rfl acr (setRow_heap l e a _ T _ h)
  (λV _ W=>setRow_other l e V _ W) (.inr (by simp[p])) (a8M _) (λz v C=>by rw[y]at C;cases C) (λj z i D=>by rw[U.an _ _ i]at D;exact D)
  (λz E=>by
   rw[U.aj]at E;obtain rfl:=Β E;rw[bk.qO];exact⟨ur L F b,_,T,by rw[S];exact setRow_heap l e a _ T _ h,k.putAt r b x,y⟩)
 rwa[bk.qO]at this
theorem Step.x2(k:Holds u f l)(b:f e=β (.cells g)\/(∃T,f e=β (.pB T g))\/f e=β (.eW g)):
  ∃C,Step u f l C (f.set e (.ro g)) l:=by
 obtain⟨o,p,a,T,z,c,r,x⟩:(f e≠ε/\∀g,f e≠β (.ro g))/\(∀D∈g,D.one=ζ)/\∃a T z,l.heap[e]?=β (.cells a T z)/\bw u a g/\∀d,u e d=none:=by
  rcases b with b|⟨T,b⟩|b
  .obtain⟨p,a,T,c,r,x⟩:=k.cx e _ b;simp_all
  .obtain⟨p,a,c,r,x⟩:=k.cx e _ b;simp_all
  .obtain⟨p,a,T,c,r,x⟩:=k.cx e _ b;simp_all
 refine⟨u.ext e a.size a,Step.write k e a.size a T _ rfl rfl rfl (a8P _) c (λ_ _ _=>rfl) (.inr o) (a8P _) (λd v y=>by rw[x]at y;cases y)
  (λG d E o=>by rw[U.an _ _ E]at o;exact o) (λd h=>?_)⟩
 rw[U.aj]at h;obtain rfl:=Β h;have F:u.le (u.ext e a.size a):=λL d v y=>by
  rw[bk.pD _ _ _ _ (λc=>by simp_all)];exact y
 refine⟨p,a,T,z,c,r.mono F,λd h=>?_⟩;rw[bk.pC _ _ _ _ h];simp[h]
def Step.freeze(a:Holds u f l)(b:f e=β (.cells g)):∃c,Step u f l c (f.set e (.ro g)) l:=Step.x2 a (.inl b)
theorem bw.sub{c:Array Value}(d:bw u c g)(a b:Nat)(h:a+b<=α g):bw u (c.extract a (a+b)) ((g.drop a).take b):=by grind[bw.ed,Ε,List.getElem?_take_of_lt,Array.getElem?_extract]
theorem Step.other(o:Holds u f l)(c:Nat)(ob:bt)
  (D:j3.os=l.os) (E:j3.tape=l.tape) (h:(j3.output,j3.drawn)=(l.output,l.drawn)) (F:l.heap.size<=j3.heap.size)
  (x:∀a,a<l.heap.size->a≠c->j3.heap[a]?=l.heap[a]?) (T:c=l.heap.size\/(f c≠ε/\∀y,f c≠β (.ro y))) (G:∀d,u c d=ε)
  (V:ln u j3 c ob):Step u f l u (f.set c ob) j3:=by
 have h:j3.output=l.output/\l.drawn<=j3.drawn:=⟨congrArg Α h,aci (congrArg Prod.snd h).symm⟩;refine⟨⟨λa d v k=>?_,λp d r=>?_⟩,.refl u,D,E,h,F,λa b L=>?_,λa b=>?_,λa d b=>.inl b,λa y b L=>?_⟩
 .have b:a≠c:=by rintro rfl;rw[G]at k;cases k
  have P:=o.lt k;rw[<-o.ro a d v k];exact World.cell?_of_block (x a P b)
 .by_cases b:p=c
  .subst b;rw[U.aj]at r;simp_all
  .rw[U.an _ _ b]at r;have z:=o.cx p d r;exact z.kept (.refl u) (x p z.lt b) (λW S=>S)
 grind
 .by_cases C:a=c;grind
  .rw[U.an _ _ C]at b;exact .inl b
 .have C:a≠c:=by grind
  grind[U.an]
def Step.x3(b:Holds u f l)(c:Obj)(a:bt)(d:ln u (l.alloc c) l.heap.size a):Step u f l u (f.set l.heap.size a) (l.alloc c):=
 .other b _ a rfl rfl rfl acr (λh _ k=>qN l _ h k) (.inl rfl) b.ng d
theorem Holds.IP(c:Holds u f l){b:Obj}(p:l.heap[e]?=β b)(r:∀d h k,b≠.cells d h k)(a:Nat):u e a=none:=by
 cases o:u e a with
 |none=>rfl
 |some v=>exfalso;have:=c.ro e a v o;grind[World.cell?,Option.some.inj]
def Step.uu(a:Holds u f l){b c:Obj}(d:f e≠ε/\∀h,f e≠β (.ro h))(k:l.heap[e]?=β b)(o:∀p r x,b≠.cells p r x)(y:ln u {l with heap:=l.heap.setIfInBounds e c} e Z):
  Step u f l u (f.set e Z) {l with heap:=l.heap.setIfInBounds e c}:=
 .other a e Z rfl rfl rfl acr (λC _ z=>abj (Δ z)) (.inr d) (a.IP k o) y
theorem uv(y:Program)(d b:Nat)(r:TypeId)(k:Nat×Nat):∀(o:List Value)(a:Nat)(c:Array Value)(h:World),h.heap[d]?=β (.cells c r k)->(∀p,p<c.size->¬(k.1<=p/\p<k.2))->b+a+α o<=c.size->(∀v∈o,v.oneCell'=ζ)->
  (storeCells ⟨d,b,ε⟩ o a).run y h=.ok () (h.setRow d (c.toList.take (b+a)++o++c.toList.drop (b+a+α o)).toArray)
 |[],a,c,h,x,_,_,_=>by
  simp only[storeCells,a9p,a8s,aab,a8K,Array.toArray_toList];rw[setRow_self h d c r k x];rfl
 |v::rest,a,c,h,x,C,z,h1=>by
  have L:b+a<c.size:=by simp at z;omega
  have P:(⟨d,b,ε⟩:Addr).add a=⟨d,b+a,ε⟩:=by unfold Addr.add;simp
  have S:h.cell? ⟨d,b+a,ε⟩=β c[b+a]:=by simp[World.cell?,x]
  have T:h.frozen? ⟨d,b+a,ε⟩=false:=by grind[World.frozen?,Bool.and_eq_false_iff,decide_eq_false_iff_not]
  have D:(store ((⟨d,b,ε⟩:Addr).add a) v).run y h=.ok () (h.setRow d (c.setIfInBounds (b+a) v)):=by grind[run_store,setCell_eq_setRow]
  have ih:=uv y d b r k rest (a+1) (c.setIfInBounds (b+a) v) (h.setRow d (c.setIfInBounds (b+a) v)) (setRow_heap h d c _ r _ x) (λp E=>C p (by simpa using E)) (by simp at z|-;omega) (λF G=>h1 F (by simp[G]));simp only[storeCells,Sem.run_bind,D,Result.andThen_ok,ih,setRow_setRow];congr 3;have V:=list_seg_step c.toList (b+a) v rest (by simp at z|-;omega);grind
def x4(b:Nat):∀a,a<b->¬(((0,0):Nat×Nat).1<=a/\a<((0,0):Nat×Nat).2):=λa _=>by simp
section
structure Src(a:Program)(w:World)(k m:Nat)(x:Value)(b:List Value):Prop where
 len:(Builtin.lenOf x).run a w=.ok m w
 cells:(Builtin.firstCells k m x).run a w=.ok b.toArray w
 IQ:(Builtin.firstCells k m x).run a w.drew=.ok b.toArray w.drew
 size:α b=m*k
def Bu(b:World)(z C S D:TypeId)(c:TypeInfo)(T:m.underlying z=β (.slice D))(p:TypeDesc)(V:m.underlying C=β p)(W:(∃E,p=.slice E)\/p=.string)
  (e:m.info? D=β c) (d a r:Nat) (k:Array Value) (F:TypeId) (o:Nat×Nat) (f:b.heap[d]?=β (.cells k F o)) (g:∀x,x<k.size->¬(o.1<=x/\x<o.2))
  (y:Nat) (G:Value) (h:List Value) (L:Src m b c.size y G h) (i:∀j∈h,j.oneCell'=ζ) (l:a+y<=r) (t:a*c.size+α h<=k.size):
  (Builtin.append_ #[z,C] S #[.slice (β ⟨d,0,ε⟩) a r,G]).run m b=.ok (.slice (β ⟨d,0,ε⟩) (a+y) r) (b.setRow d (dh k (a*c.size) h)):=by
 have P:=uv m d (a*c.size) F o h 0 k b f g (by trivial) i;simp only[aab]at P;have n:(storeCells ⟨d,a*c.size,ε⟩ h).run m b=.ok () (b.setRow d (dh k (a*c.size) h)):=by rw[P];rfl
 have q:=λs=>run_underlying V s;rcases W with⟨E,rfl⟩|rfl<;>simp[Builtin.append_,run_underlying T,q,sizeOf,typeInfo,e,L.len,l,L.cells,Addr.add_lit,n]
def IS(b:World)(C D T E:TypeId)(c:TypeInfo)(V:m.underlying C=β (.slice E))(r:TypeDesc)(W:m.underlying D=β r)(e:(∃F,r=.slice F)\/r=.string)
  (f:m.info? E=β c) (d h a x:Nat) (o:Array Value) (G:TypeId) (p:Nat×Nat) (g:b.heap[d]?=β (.cells o G p)) (i:∀y,y<o.size->¬(p.1<=y/\y<p.2))
  (z:Nat) (L:Value) (k:List Value) (P:Src m b c.size z L k) (j:∀l∈k,l.oneCell'=ζ) (n:a+z<=x) (u:h+a*c.size+α k<=o.size):
  (Builtin.append_ #[C,D] T #[.slice (β ⟨d,h,ε⟩) a x,L]).run m b=.ok (.slice (β ⟨d,h,ε⟩) (a+z) x) (b.setRow d (dh o (h+a*c.size) k)):=by
 have S:=uv m d (h+a*c.size) G p k 0 o b g i (by trivial) j;simp only[aab]at S;have q:(storeCells ⟨d,h+a*c.size,ε⟩ k).run m b=.ok () (b.setRow d (dh o (h+a*c.size) k)):=by rw[S];rfl
 have s:=λt=>run_underlying W t;rcases e with⟨F,rfl⟩|rfl<;>simp[Builtin.append_,run_underlying V,s,sizeOf,typeInfo,f,P.len,n,P.cells,Addr.add_mid,q]
theorem qP(c:World)(r x G k:TypeId)(d:TypeInfo)(y:Value)(L:m.underlying r=β (.slice k))(o:TypeDesc)(P:m.underlying x=β o)(S:(∃z,o=.slice z)\/o=.string)
  (T:m.info? k=β d) (V:d.zero=β y) (C:Option Addr) (a h:Nat) (p:List Value) (q:α p=a*d.size)
  (W:(Builtin.firstCells d.size a (.slice C a h)).run m c.drew=.ok p.toArray c.drew)
  (b:Nat) (D:Value) (E:List Value) (F:Src m c d.size b D E) (e:h<a+b) (s:((a+b:Nat):Int)<=9223372036854775807) (f:(a+b)*d.bytes<=140737488355328):
  (Builtin.append_ #[r,x] G #[.slice C a h,D]).run m c=
   .ok (.slice (β ⟨c.heap.size,0,ε⟩) (a+b) (grownCap c (a+b) h k))
    (c.drew.alloc (.cells (p.toArray++E.toArray++Builtin.zeroCells y.cells (grownCap c (a+b) h k -(a+b))) k)):=by
 have g:¬(a+b<=h):=acq;have i:¬(9223372036854775807<((a)+(b:Int))):=acq;have j:¬(281474976710656<Builtin.nextslicecap (a+b) h*d.bytes):=by have:=growslice_fits e f;omega
 have l:=λn=>run_underlying P n;rcases S with⟨z,rfl⟩|rfl
 all_goals
  simp[Builtin.append_,run_underlying L,l,sizeOf,typeInfo,zeroValue,T,V,F.len,g,i,j,Question.forced,F.IQ,W,newRow,grownCap];grind
end
abbrev Fr:=Nat->R
def mf(b:Fr)(c:Nat)(d:R):Fr:=λa=>if a=c then d else b a
def dp(b:Fr)(a:Option Nat)(c:R):Fr:=
 match a with
 |some a=>mf b a c
 |none=>b
def cV:Value->R
 |.slice ε 0 0=>.J [] .nil
 |a=>.v a
def ofConst:Value->R
 |.agg cs=>.agg (cs.toList.map cV)
 |.tuple cs=>.aJ (cs.toList.map cV)
 |a=>cV a
def so:Value->Bool
 |.agg cs=>cs.toList.all (·.oneCell')
 |.tuple cs=>cs.toList.all (·.oneCell')
 |a=>a.oneCell'
def aM:Operand->Bool
 |.const v=>so v
 |_=>ζ
def ak(a:Fr):Operand->R
 |.tmp b=>a b
 |.const v=>ofConst v
 |.global c=>.ptr c 0
 |.func d=>.bL d [] []
theorem bb.cV(b:bk)(a:Value)(c:a.oneCell'=ζ):bb b a (cV a):=by
 unfold Go.bD.cV;split
 .exact .dn _ _ _ (λ_=>rfl) rfl
 .exact .v a c
def oz(a:Value):(cV a).one=true:=by unfold cV;split<;>rfl
def bw.pE(c:bk)(b:Array Value)(k:∀a∈b.toList,a.oneCell'=ζ):bw c b (b.toList.map Go.bD.cV):=by
 refine bw.ed.2 ⟨acr,λp a o d h=>?_⟩;rw[a8H,d]at h;obtain rfl:cV a=o:=by simpa using h
 exact bb.cV c a (k a (a8r d))
def bb.ofConst(d:bk)(a:Value)(c:so a=ζ):bb d a (ofConst a):=by
 cases a<;>first
  |exact bb.cV d _ c
  |skip
 case agg b=>
  have h:∀a∈b.toList,a.oneCell'=true:=by simp only[so,a8A]at c;exact c
  obtain⟨k,o⟩:=bw.pE d b h;refine .agg b _ (λr p=>?_) k o;obtain⟨a,_,rfl⟩:=a8D.1 p;exact oz a
 case tuple b=>
  have h:∀a∈b.toList,a.oneCell'=true:=by simp only[so,a8A]at c;exact c
  obtain⟨k,o⟩:=bw.pE d b h;exact .aJ b _ k o
def bK(b:bk)(c:Act)(d:Fr):Prop:=∀a,bb b (c.tmps.getD a undef) (d a)
theorem bK.ak{c:bk}{d:Act}{h:Fr}(a:bK c d h)(b:Operand)(k:aM b=ζ):bb c (d.eval b) (ak h b):=by
 cases b with
 |tmp o=>exact a o
 |const v=>exact bb.ofConst c v k
 |global p=>exact .ptr p 0
 |func r=>exact .bL r #[] #[] [] [] rfl (λx y a=>by simp at a) rfl (λx y a=>by simp at a)
def bK.mono{b c:bk}{a:Act}{d:Fr}(h:bK b a d)(k:b.le c):bK c a d:=λo=>(h o).mono k
theorem bK.put{d:bk}{a:Act}{h:Fr}(k:bK d a h)(b:Option Nat)(r:∀c,b=β c->c<a.tmps.size){v:Value}{o:R}(x:bb d v o):bK d (a.put b v) (dp h b o):=by
 cases b with
 |none=>exact k
 |some b=>
  intro c;have y:=r b rfl;by_cases p:c=b;simp_all [dp,mf,Act.put]
  .simp only[dp,mf,if_neg p,Act.put];rw[a9g,abj (Δ p),<-a9g];exact k c
def aQ(b:Bool)(c:Nat)(a:Ψ):R:=if b then .agg (a.take c)else a.headD (.aJ [])
def U.read(a:U)(l:Nat):Option Ψ:=
 match a l with
 |some (.cells cs)=>β cs
 |some (.ro cs)=>β cs
 |some (.pB _ cs)=>β cs
 |some (.eW cs)=>β cs
 |_=>ε
def eo(a b:Nat)(c:Ψ):Ψ:=if a=1 then c.take b else(χ b).map λd=>.agg ((c.drop (d*a)).take a)
def hR(d:BinOp)(a:IntKind)(c b:Int):Option Value:=
 match d with
 |.add=>β (.int a (a.wrap (c+b)))
 |.sub=>β (.int a (a.wrap (c - b)))
 |.mul=>β (.int a (a.wrap (c*b)))
 |.quo=>if b=0 then ε else β (.int a (a.wrap (c.tdiv b)))
 |.rem=>if b=0 then ε else β (.int a (c.tmod b))
 |.and=>β (.int a (a.wrap (π a.bits c&&&π a.bits b).toNat))
 |.or=>β (.int a (a.wrap (π a.bits c|||π a.bits b).toNat))
 |.xor=>β (.int a (a.wrap (π a.bits c^^^π a.bits b).toNat))
 |.andNot=>β (.int a (a.wrap (π a.bits c&&& ~~~(π a.bits b)).toNat))
 |.eql=>β (.bool (decide (c=b)))
 |.neq=>β (.bool (decide (c≠b)))
 |.lss=>β (.bool (decide (c<b)))
 |.leq=>β (.bool (decide (c<=b)))
 |.gtr=>β (.bool (decide (b<c)))
 |.geq=>β (.bool (decide (b<=c)))
 |_=>ε
def oA(d:BinOp)(a:IntKind)(c b:Int):Option Value:=
 if b<0 then ε else
 match d with
 |.shl=>β (.int a (a.wrap (c*2^(min b.toNat a.bits))))
 |.shr=>β (.int a (c.fdiv (2^(min b.toNat a.bits))))
 |_=>ε
def fB:BinOp->Bool
 |.shl|.shr=>ζ
 |_=>θ
def qQ(c:BinOp)(a b:ByteArray):Option Value:=
 match c with
 |.add=>if a.size+b.size<=9223372036854775807 then β (.string (a++b))else ε
 |.eql=>β (.bool (a.toList==b.toList))
 |.neq=>β (.bool (!(a.toList==b.toList)))
 |.lss=>β (.bool (Op.bytesLess a.toList b.toList))
 |.leq=>β (.bool (Op.bytesLess a.toList b.toList||a.toList==b.toList))
 |.gtr=>β (.bool (!(Op.bytesLess a.toList b.toList||a.toList==b.toList)))
 |.geq=>β (.bool (!(Op.bytesLess a.toList b.toList)))
 |_=>ε
def br(a:BinOp):Value->Value->Option Value
 |.int b c,.int h d=>if fB a then oA a b c d else if b=h then hR a b c d else ε
 |.string k,.string o=>qQ a k o
 |_,_=>ε
def oB(b:UnOp):Value->Option Value
 |.bool d=>match b with|.not=>β (.bool !d)|_=>ε
 |.int a c=>match b with
  |.neg=>β (.int a (a.wrap (0 - c)))
  |.xor=>β (.int a (a.wrap (π a.bits (if a.signed then -1 else a.max)^^^π a.bits c).toNat))
  |_=>ε
 |_=>ε
noncomputable def peq (a b:R):Bool:=@decide (a=b) (Classical.propDecidable _)
def qR(a b:R):peq a b=ζ↔a=b:=by simp[peq]
def IT(a:R):peq a a=true:=by simp[peq]
inductive c6 where
 |int (k:IntKind)
 |bool
 |str
 deriving DecidableEq
def c6.fit:c6->Value->Prop
 |.int a,.int b _=>a=b
 |.bool,.bool _=>True
 |.str,.string _=>True
 |_,_=>False
def c6.uw:c6->R->Prop
 |.int a,.v (.int b _)=>a=b
 |.bool,.v (.bool _)=>True
 |.str,.v (.string _)=>True
 |_,_=>False
def di:List (Nat×c6)->Ψ->Prop
 |[],cs=>cs=[]
 |(a,b)::c,cs=>a<=α cs/\(∀d∈cs.take a,b.uw d)/\di c (cs.drop a)
noncomputable def dx:List (R×R×Nat)->R->Nat->Option (Nat×R)
 |[],_,_=>ε
 |a::us,b,c=>if peq b a.1 then β (c,a.2.1)else dx us b (c+1)
noncomputable def lo (a:List (R×R×Nat)) (c v:R) (b:Nat):List (R×R×Nat)×Nat:=
 match dx a c 0 with
 |some (h,_)=>(a.modify h λd=>(d.1,v,d.2.2),b)
 |none=>(a++[(c,v,b)],b+1)
noncomputable def x5 (a:List (R×R×Nat)) (b:R):List (R×R×Nat):=
 match dx a b 0 with
 |some (c,_)=>a.eraseIdx c
 |none=>a
def IU(a:List (R×R×Nat))(b:Int):Option Nat:=a.findIdx? λc=>(c.2.2:Int)==b
def pF(b:List (Nat×c6))(c:List (R×R×Nat)):Prop:=∀d∈c,∃a,d.1=.agg a/\di b a
inductive cc where
 |fi (x:Operand)
 |pick (c a b:Operand)
 |alloc (T:TypeId) (zero:Ψ)
 |box (T:TypeId) (x:Operand)
 |lp (T:TypeId) (x:Operand)
 |load (agg:Bool) (n:Nat) (x:Operand)
 |store (n:Nat) (x y:Operand)
 |qS (x:Operand)
 |lq (off:Nat) (x:Operand)
 |qT (k len:Nat) (x i:Operand)
 |dU (k:Nat) (x i:Operand)
 |pG (agg:Bool) (k len:Nat) (x i:Operand)
 |mg (x i:Operand)
 |mh (zero:Ψ) (parts:List (Nat×Nat×Operand))
 |kt (k:Nat) (xs:List Operand)
 |pH (k:Nat) (x:Operand) (aV aU:Option Operand)
 |ku (k n:Nat) (x:Operand) (aV aU:Option Operand) (ro:Bool)
 |kv (k n:Nat) (x:Operand) (aV aU:Option Operand)
 |len (x:Operand)
 |qU (x:Operand)
 |pI (x:Operand)
 |pJ (agg:Bool) (off n:Nat) (x:Operand)
 |bin (op:BinOp) (x y:Operand)
 |eqv (neg:Bool) (bI:List (Nat×c6)) (x y:Operand)
 |qV (neg:Bool) (x y:Operand)
 |ni (neg:Bool) (x y:Operand)
 |pK (neg:Bool) (x y:Operand)
 |un (op:UnOp) (x:Operand)
 |jb (k:IntKind) (x:Operand)
 |app (k bytes:Nat) (x y:Operand)
 |fZ (fn:FuncId) (args:List Operand)
 |ext (x:Operand) (i:Nat)
 |mi (d:Bool) (k:IntKind) (x y:Operand)
 |qW (x:Operand)
 |kx (k bytes:Nat) (z:Ψ) (x y:Operand)
 |nj (k:Nat) (x y:Operand)
 |nk (neg:Bool) (x:Operand)
 |ky (k:Nat) (xs:List Operand)
 |mj (k bytes:Nat) (x y:Operand)
 |pL (x:Operand)
 |bL (fn:FuncId) (first cap:List Operand)
 |jc (x:Operand) (args:List Operand)
 |qX (t:TypeId) (x:Operand)
 |nm (x:Operand)
 |kz (x:Operand)
 |nn (x:Operand)
 |oC (x:Operand)
 |oD (x:Operand)
 |oE (x:Operand)
 |oF (rs:List (Nat×c6)) (x k:Operand)
 |kA
 |kB (ok:Bool) (rs:List (Nat×c6)) (z:R) (x k:Operand)
 |lr (rs:List (Nat×c6)) (x k v:Operand)
 |np (x:Operand)
 |ml (k:Nat) (x:Operand) (aV aU d:Option Operand)
 |nq (k:Nat) (z:Ψ) (x:Operand)
 |nr (k:Nat) (x y:Operand)
 |ns (k bytes:Nat) (z:Ψ) (x y:Operand)
 |nt (x y:Operand)
 |qY (x y c:Operand)
def fH(a:Program)(b:FuncId):Bool:=
 match a.funcs[b]? with
 |some fn=>fn.body.isSome&&fn.name != "runtime.NumGoroutine"
 |none=>θ
structure Ctx where
 p:Program
 k:R->U->Prop
@[reducible] def Ctx.of(a:Program):Ctx:=⟨a,λ_ _=>False⟩
def kC(a:Fr)(b:Ψ):List (Nat×Nat×Operand)->(Ψ->Prop)->Prop
 |[],c=>c b
 |(off,ch,d)::h,c=>(ak a d).cells.length=ch/\off+ch<=α b/\kC a (putAt b off (ak a d).cells) h c
def ah(a:UInt8):R:=.v (.int .u8 a.toNat)
def byteOf:R->Option UInt8
 |.v (.int .u8 a)=>if 0<=a/\a<256 then β (ν a.toNat)else ε
 |_=>ε
def bytesOf:Ψ->Option Υ
 |[]=>β []
 |a::b=>match byteOf a,bytesOf b with
  |some c,β aO=>β (c::aO)
  |_,_=>ε
def IV(a:UInt8):byteOf (ah a)=β a:=by have c:=a.toNat_lt;have b:(0)<=(a.toNat:Int)/\(a.toNat:Int)<256:=acq;simp[byteOf,ah,b]
def sq:∀a:Υ,bytesOf (a.map ah)=β a
 |[]=>rfl
 |b::a=>by simp[bytesOf,IV,sq a]
def dd(b:Fr)(a:Option Operand)(c:Nat):Option Int:=
 match a with
 |none=>β c
 |some a=>match ak b a with
  |.v (.int _ d)=>β d
  |_=>ε
def x6(a:Own)(b c:Option Operand):Own:=
 match b,c with
 |none,ε=>a
 |_,_=>.any
def qZ(k:Bool)(c a d h b:Nat):R:=if k=ζ then .bE c (a*b) (d - a) (h - a) b else .aq c d h b
def bT(k:U)(a:Nat)(o:R):Option (Nat×Ψ):=
 match o with
 |.J c _=>if c.all (λp=>decide (α p.cells=a))=ζ then β (α c,flat c)else ε
 |.aq d b _ h=>match k.read d with
  |some cs=>if h=a/\b*a<=α cs then β (b,cs.take (b*a))else ε
  |none=>ε
 |.bE d off b _ h=>match k.read d with
  |some cs=>if h=a/\off+b*a<=α cs then β (b,(cs.drop off).take (b*a))else ε
  |none=>ε
 |_=>ε
def nu(d:U)(b:Nat)(a:R):Option (Nat×Ψ):=
 match a with
 |.v (.string c)=>if b=1 then β (c.size,c.data.toList.map ah)else ε
 |a=>bT d b a
def x7{a:Nat×Ψ}(b:bT f e n=β a):nu f e n=β a:=by
 unfold nu;split
 .trivial
 .exact b
def lu(a:U)(b:Nat):Bool:=
 match a b with
 |some (.cells _)=>ζ
 |some (.pB _ _)=>ζ
 |_=>θ
def sr:R->Option R
 |.aq _ _ cap _=>β (.v (.int .i64 cap))
 |.J [] .nil=>β (.v (.int .i64 0))
 |_=>ε
def ss(c:Fr)(h:Nat)(y:R)(k o p:Option Operand):Option R:=
 match y with
 |.aq r len cap x=>match dd c k 0,dd c o len,dd c p cap with
  |some a,β d,β b=>if x=h/\0<=a/\a<=d/\d<=b/\b<=cap then
    β (if k.isSome=ζ then(if a<b then .bE r (a.toNat*h) (d.toNat - a.toNat) (b.toNat - a.toNat) h else .J [] .zero)else .aq r d.toNat b.toNat h)
   else ε
  |_,_,_=>ε
 |.bE r off len cap x=>match dd c k 0,dd c o len,dd c p cap with
  |some a,β d,β b=>if x=h/\0<=a/\a<=d/\d<=b/\b<=cap then
    β (if a<b then .bE r (off+a.toNat*h) (d.toNat - a.toNat) (b.toNat - a.toNat) h else .J [] .zero)
   else ε
  |_,_,_=>ε
 |.J [] .nil=>match dd c k 0,dd c o 0,dd c p 0 with
  |some a,β d,β b=>if a=0/\d=0/\b=0 then β (.J [] .nil)else ε
  |_,_,_=>ε
 |.J [] .zero=>match dd c k 0,dd c o 0,dd c p 0 with
  |some a,β d,β b=>if a=0/\d=0/\b=0 then β (.J [] .zero)else ε
  |_,_,_=>ε
 |_=>ε
def lv(b:Nat)(h:Ψ)(k:R)(a:U):Option U:=
 match k with
 |.bE c off d _ o=>match a c with
  |some (.cells cs)=>if o=b/\off+d*b<=α cs then β (a.set c (.cells (putAt cs off (δ d h).flatten)))else ε
  |_=>ε
 |.J [] _=>β a
 |_=>ε
def mm(a:Nat)(p r:R)(c:U):Option (R×U):=
 match bT c a r with
 |some (k,o)=>match p with
  |.bE d off b _ h=>match c d with
   |some (.cells cs)=>if h=a/\off+b*a<=α cs then β (.v (.int .i64 (min k b:Nat)),c.set d (.cells (putAt cs off (o.take (b*a)))))else ε
   |_=>ε
  |.aq d b _ h=>match c d with
   |some (.cells cs)=>if h=a/\b*a<=α cs then β (.v (.int .i64 (min k b:Nat)),c.set d (.cells (putAt cs 0 (o.take (b*a)))))else ε
   |_=>ε
  |.J [] _=>β (.v (.int .i64 0),c)
  |_=>ε
 |none=>ε
def cN:R->Option Nat
 |.aq a _ _ _=>β a
 |.bE a _ _ _ _=>β a
 |_=>ε
def kD(a:U)(b:Nat):Bool:=
 match a b with
 |some (.cells (_:: _))=>ζ
 |_=>θ
def lx(d h:R)(a:U):Option R:=
 match cN d,cN h with
 |some b,β c=>if b≠c/\kD a b=ζ/\kD a c=ζ then β (.v (.bool θ))else ε
 |_,_=>ε
def x8(d h k:R):Option R:=
 match d,h,k with
 |.v (.int .u64 b),.v (.int .u64 c),.v (.int .u64 a)=>if 0<=b/\0<=c/\0<=a/\a<=1 then β (.aJ [.v (.int .u64 ((b+c+a)%18446744073709551616)),.v (.int .u64 ((b+c+a)/18446744073709551616))])else ε
 |_,_,_=>ε
def G(j:Ctx)(l:cc)(d:Fr)(a:U)(k:R->U->Prop):Prop:=
  match l with
  |.fi c=>k (ak d c) a
  |.pick m x z=>match ak d m with
    |.v (.bool P)=>k (if P then ak d x else ak d z) a
    |_=>False
  |.alloc _ zero=>∀o,a o=ε->k (.ptr o 0) (a.set o (.cells zero))
  |.box _ c=>0<(ak d c).cells.length/\∀o,a o=ε->k (.ptr o 0) (a.set o (.cells (ak d c).cells))
  |.lp _ c=>0<(ak d c).cells.length/\∀o,a o=ε->k (.ptr o 0) (a.set o (.ro (ak d c).cells))
  |.load agg b c=>match ak d c with
    |.ptr o off=>match a.read o with
      |some p=>off+b<=α p/\k (aQ agg b (p.drop off)) a
      |none=>False
    |.bZ p=>b<=α p/\k (aQ agg b p) a
    |_=>False
  |.store b c C=>match ak d c with
    |.ptr o off=>match a o with
      |some (.cells p)=>(ak d C).cells.length=b/\off+b<=α p/\k (.aJ []) (a.set o (.cells (putAt p off (ak d C).cells)))
      |_=>False
    |_=>False
  |.qS c=>match ak d c with
    |.ptr o off=>k (.ptr o off) a
    |.bZ p=>k (.bZ p) a
    |.bL b cM p=>k (.bL b cM p) a
    |_=>False
  |.lq off c=>match ak d c with
    |.ptr o S=>k (.ptr o (S+off)) a
    |.bZ p=>k (.bZ (p.drop off)) a
    |_=>False
  |.qT h len c f=>match ak d c,ak d f with
    |.ptr o S,.v (.int _ b)=>0<=b/\b<len/\k (.ptr o (S+b.toNat*h)) a
    |.bZ p,.v (.int _ b)=>0<=b/\b<len/\k (.bZ (p.drop (b.toNat*h))) a
    |_,_=>False
  |.dU h c f=>match ak d c,ak d f with
    |.J xs _,.v (.int _ b)=>0<=b/\match xs[b.toNat]? with
      |some V=>α V.cells=h/\k (.bZ V.cells) a
      |none=>False
    |.bE o off len _ L,.v (.int _ b)=>L=h/\0<=b/\b<len/\k (.ptr o (off+b.toNat*h)) a
    |.aq o len _ L,.v (.int _ b)=>L=h/\0<=b/\b<len/\k (.ptr o (b.toNat*h)) a
    |_,_=>False
  |.pG agg h len c f=>match ak d c,ak d f with
    |.agg p,.v (.int _ b)=>0<=b/\b<len/\b.toNat*h+h<=α p/\k (aQ agg h (p.drop (b.toNat*h))) a
    |_,_=>False
  |.mg c f=>match ak d c,ak d f with
    |.v (.string P),.v (.int _ b)=>0<=b/\match P.data[b.toNat]? with
      |some z=>k (.v (.int .u8 z.toNat)) a
      |none=>False
    |_,_=>False
  |.mh zero parts=>kC d zero parts λp=>k (.agg p) a
  |.kt h xs=>(∀V∈xs.map (ak d),α V.cells=h)/\
      (if α xs=0 then k (.J [] .zero) a else∀y,a y=ε->k (.J (xs.map (ak d)) (.buf y (α xs))) (a.set y (.buf h (α xs) (α xs))))
  |.pH h c aV aU=>match ak d c with
    |.J xs S=>match dd d aV 0,dd d aU (α xs) with
      |some x,β z=>0<=x/\x<=z/\z<=α xs/\(∀V∈xs,α V.cells=h)/\k (.J ((xs.take z.toNat).drop x.toNat) (x6 S aV aU)) a
      |_,_=>False
    |.bE o off len D L=>match dd d aV 0,dd d aU len with
      |some x,β z=>L=h/\0<=x/\x<=z/\z<=len/\x<len/\k (.bE o (off+x.toNat*h) (z.toNat - x.toNat) (D - x.toNat) h) a
      |_,_=>False
    |.aq o len D L=>match dd d aV 0,dd d aU len with
      |some x,β z=>L=h/\0<=x/\x<=z/\z<=len/\(aV.isSome=ζ->x<len)/\k (qZ aV.isSome o x.toNat z.toNat D h) a
      |_,_=>False
    |_=>False
  |.ku h b c aV aU ro=>match ak d c with
    |.ptr o off=>match dd d aV 0,dd d aU b with
      |some x,β z=>0<=x/\x<=z/\z<=b/\match a.read o with
        |some p=>off+b*h<=α p/\
          (if ro then k (.J (eo h (z.toNat - x.toNat) (p.drop (off+x.toNat*h))) .any) (a.set o (.ro p))else x<b/\k (.bE o (off+x.toNat*h) (z.toNat - x.toNat) (b - x.toNat) h) a)
        |none=>False
      |_,_=>False
    |_=>False
  |.kv h b c aV aU=>match ak d c with
    |.ptr o off=>match dd d aV 0,dd d aU b with
      |some x,β z=>0<=x/\x<=z/\z<=b/\match a o with
        |some (.ro p)=>off+b*h<=α p/\k (.J (eo h (z.toNat - x.toNat) (p.drop (off+x.toNat*h))) .any) a
        |_=>False
      |_,_=>False
    |_=>False
  |.len c=>match ak d c with
    |.J xs _=>k (.v (.int .i64 (α xs))) a
    |.bE _ _ b _ _=>k (.v (.int .i64 b)) a
    |.aq _ b _ _=>k (.v (.int .i64 b)) a
    |_=>False
  |.qU c=>match ak d c with
    |.v (.string P)=>k (.v (.int .i64 P.size)) a
    |_=>False
  |.pI c=>match ak d c with
    |.ey o=>match a o with
      |some (.mp us _)=>k (.v (.int .i64 (α us))) a
      |_=>False
    |_=>False
  |.pJ agg off b c=>match ak d c with
    |.agg p=>off+b<=α p/\k (aQ agg b (p.drop off)) a
    |_=>False
  |.bin l c C=>match ak d c,ak d C with
    |.v x,.v z=>match br l x z with
      |some W=>k (.v W) a
      |none=>False
    |_,_=>False
  |.eqv neg bI c C=>match ak d c,ak d C with
    |.agg p,.agg cM=>di bI p/\di bI cM/\k (.v (.bool (xor neg (peq (.agg p) (.agg cM))))) a
    |_,_=>False
  |.qV neg c C=>match ak d c,ak d C with
    |.ptr _ _,.v (.pointer ε)=>k (.v (.bool neg)) a
    |.bZ _,.v (.pointer ε)=>k (.v (.bool neg)) a
    |.v (.pointer ε),.v (.pointer ε)=>k (.v (.bool (!neg))) a
    |_,_=>False
  |.pK neg c C=>match ak d c,ak d C with
    |.v (.bool x),.v (.bool z)=>k (.v (.bool (xor neg (x==z)))) a
    |_,_=>False
  |.ni neg c C=>match ak d c,ak d C with
    |.ptr _ _,.v (.pointer ε)=>k (.v (.bool neg)) a
    |.v (.pointer ε),.ptr _ _=>k (.v (.bool neg)) a
    |.v (.pointer ε),.v (.pointer ε)=>k (.v (.bool (!neg))) a
    |.ptr o S,.ptr t u=>(lu a o=ζ/\lu a t=ζ)/\k (.v (.bool (xor neg (decide (o=t/\S=u))))) a
    |_,_=>False
  |.un l c=>match ak d c with
    |.v x=>match oB l x with
      |some W=>k (.v W) a
      |none=>False
    |_=>False
  |.jb h c=>match ak d c with
    |.v (.int _ b)=>k (.v (.int h (h.wrap b))) a
    |_=>False
  |.app h bytes c C=>match ak d c,ak d C with
    |.J xs S,.J E _=>(∀V∈xs,α V.cells=h)/\(∀V∈E,α V.cells=h)/\(α xs+α E)*bytes<=140737488355328/\α xs+α E<=9223372036854775807/\
      match S with
      |.buf y m=>a y=β (.buf h (α xs) m)/\∀i n,(i=y\/a i=ε)->k (.J (xs++E) (.buf i n)) ((a.del y).set i (.buf h (α xs+α E) n))
      |.any=>False
      |_=>xs=[]/\(if E=[]then k (.J [] S) a else∀i n,a i=ε->k (.J E (.buf i n)) (a.set i (.buf h (α E) n)))
    |_,_=>False
  |.fZ fn args=>hQ j.p fn (args.map (ak d)) a k (up j.k)
  |.ext c f=>match ak d c with
    |.aJ w=>match w[f]? with
      |some W=>k W a
      |none=>False
    |_=>False
  |.mi q _ c C=>match ak d c,ak d C with
    |.v (.int h x),.v (.int L z)=>h=L/\k (.v (.int h (if q then max x z else min x z))) a
    |_,_=>False
  |.qW c=>match ak d c with
    |.J xs _=>match bytesOf xs with
      |some o=>k (.v (.string ⟨o.toArray⟩)) a
      |none=>False
    |_=>False
  |.kx h bytes g c C=>match ak d c,ak d C with
    |.v (.int _ b),.v (.int _ r)=>b=r/\0<=b/\b<=9223372036854775807/\b*bytes<=281474976710656/\∀y,a y=ε->k (.aq y b.toNat b.toNat h) (a.set y (.cells (δ b.toNat g).flatten))
    |_,_=>False
  |.nj h c C=>match ak d c,ak d C with
    |.bE o off b _ L,.J E _=>L=h/\(∀V∈E,α V.cells=h)/\match a o with
      |some (.cells p)=>off+b*h<=α p/\k (.v (.int .i64 (min (α E) b))) (a.set o (.cells (putAt p off (flat (E.take b)))))
      |_=>False
    |.aq o b _ L,.J E _=>L=h/\(∀V∈E,α V.cells=h)/\match a o with
      |some (.cells p)=>b*h<=α p/\k (.v (.int .i64 (min (α E) b))) (a.set o (.cells (putAt p 0 (flat (E.take b)))))
      |_=>False
    |_,_=>False
  |.ky h xs=>(∀V∈xs.map (ak d),α V.cells=h)/\
      (if α xs=0 then k (.J [] .zero) a else∀y,a y=ε->k (.aq y (α xs) (α xs) h) (a.set y (.cells (flat (xs.map (ak d))))))
  |.mj h bytes c C=>match nu a h (ak d C)with
    |some (r,E)=>match ak d c with
      |.J xs S=>xs=[]/\(S=.nil\/S=.zero)/\r*bytes<=140737488355328/\r<=9223372036854775807/\
        (if r=0 then k (.J [] S) a else∀y D T,a y=ε->r<=D->D<=maxLen->α T=(D - r)*h->k (.aq y r D h) (a.set y (.cells (E++T))))
      |.aq o b D L=>match a o with
        |some (.cells p)=>L=h/\α p=D*h/\(b+r)*bytes<=140737488355328/\b+r<=9223372036854775807/\
          (if b+r<=D then k (.aq o (b+r) D h) (a.set o (.cells (putAt p (b*h) E)))
           else∀y F T,a y=ε->b+r<=F->F<=maxLen->α T=(F -(b+r))*h->k (.aq y (b+r) F h) (a.set y (.cells (p.take (b*h)++E++T))))
        |some (.eW p)=>L=h/\α p=D*h/\(b+r)*bytes<=140737488355328/\b+r<=9223372036854775807/\
          (if b+r<=D then k (.aq o (b+r) D h) (a.set o (.eW (putAt p (b*h) E)))
           else∀y F T,a y=ε->b+r<=F->F<=maxLen->α T=(F -(b+r))*h->k (.aq y (b+r) F h) (a.set y (.cells (p.take (b*h)++E++T))))
        |_=>False
      |.bE o off b D L=>match a o with
        |some (.cells p)=>L=h/\off+D*h<=α p/\(b+r)*bytes<=140737488355328/\b+r<=9223372036854775807/\
          (if b+r<=D then k (.bE o off (b+r) D h) (a.set o (.cells (putAt p (off+b*h) E)))
           else∀y F T,a y=ε->b+r<=F->F<=maxLen->α T=(F -(b+r))*h->k (.aq y (b+r) F h) (a.set y (.cells ((p.drop off).take (b*h)++E++T))))
        |_=>False
      |_=>False
    |none=>False
  |.pL c=>match ak d c with
    |.v (.string P)=>k (.J (P.data.toList.map ah) .any) a
    |_=>False
  |.bL fn first D=>k (.bL fn (first.map (ak d)) (D.map (ak d))) a
  |.jc c args=>match ak d c with
    |.bL fn cM p=>fH j.p fn=ζ/\hQ j.p fn (cM++args.map (ak d)++p) a k (up j.k)
    |_=>False
  |.qX P c=>k (.iface P (ak d c)) a
  |.nm c=>match ak d c with
    |.iface P C=>up j.k (.iface P C) a
    |_=>False
  |.kz c=>match ak d c with
    |.v (.string P)=>∀o,a o=ε->k (.ptr o 0) (a.set o (.it P 0))
    |_=>False
  |.nn c=>match ak d c with
    |.ptr o off=>off=0/\match a o with
      |some (.it P pos)=>if pos<P.size then k (.aJ [.v (.bool ζ),.v (.int .i64 pos),.v (.int .i32 (Utf8.decode P pos).1)]) (a.set o (.it P (pos+(Utf8.decode P pos).2)))else k (.aJ [.v (.bool θ)]) a
      |_=>False
    |_=>False
  |.oC c=>match ak d c with
    |.ey r=>match a r with
      |some (.mp _ clock)=>∀o,a o=ε->k (.ptr o 0) (a.set o (.jQ (β r) clock [] clock))
      |_=>False
    |_=>False
  |.oD c=>match ak d c with
    |.ptr o off=>off=0/\match a o with
      |some (.jQ (β r) since seen last)=>match a r with
        |some (.mp us clock)=>(seen=[]\/us=[]\/∃e∈us,e.2.2<last)/\
            ((∀e∈us,e.2.2∉seen->¬e.2.2<since)->k (.aJ [.v (.bool θ)]) a)/\
            ∀e∈us,e.2.2∉seen->k (.aJ [.v (.bool ζ),e.1,e.2.1]) (a.set o (.jQ (β r) since (seen++[e.2.2]) clock))
        |_=>False
      |_=>False
    |_=>False
  |.oE c=>match ak d c with
    |.ptr o off=>off=0/\match a o with
      |some (.jQ (β r) _ seen last)=>match a r,seen.getLast? with
        |some (.mp us clock),β z=>clock=last/\match us.find? (λe=>e.2.2==z)with
          |some e=>k (.aJ [e.1,e.2.1]) a
          |none=>False
        |_,_=>False
      |_=>False
    |_=>False
  |.oF rs c h=>match ak d c,ak d h with
    |.ey o,.agg p=>match a o with
      |some (.mp us clock)=>di rs p/\pF rs us/\k (.aJ []) (a.set o (.mp (x5 us (.agg p)) clock))
      |_=>False
    |_,_=>False
  |.kA=>∀o,a o=ε->k (.ey o) (a.set o (.mp [] 0))
  |.kB ok rs g c h=>match ak d c,ak d h with
    |.ey o,.agg p=>match a o with
      |some (.mp us _)=>di rs p/\pF rs us/\(match dx us (.agg p) 0 with
        |some (_,v)=>k (if ok then .aJ [v,.v (.bool ζ)]else v) a
        |none=>k (if ok then .aJ [g,.v (.bool θ)]else g) a)
      |_=>False
    |_,_=>False
  |.lr rs c h v=>match ak d c,ak d h with
    |.ey o,.agg p=>match a o with
      |some (.mp us clock)=>di rs p/\pF rs us/\k (.aJ []) (a.set o (.mp (lo us (.agg p) (ak d v) clock).1 (lo us (.agg p) (ak d v) clock).2))
      |_=>False
    |_,_=>False
  |.nk neg c=>match ak d c with
    |.J xs S=>match S with
      |.nil=>k (.v (.bool (!neg))) a
      |.buf _ _=>k (.v (.bool neg)) a
      |_=>(xs=[]->k (.v (.bool (!neg))) a)/\k (.v (.bool neg)) a
    |.aq _ _ _ _=>k (.v (.bool neg)) a
    |_=>False
  |.np c=>match sr (ak d c)with
    |some W=>k W a
    |none=>False
  |.ml h c aV aU q=>match ss d h (ak d c) aV aU q with
    |some W=>k W a
    |none=>False
  |.nq h g c=>match lv h g (ak d c) a with
    |some s=>k (.aJ []) s
    |none=>False
  |.nr h c C=>match mm h (ak d c) (ak d C) a with
    |some (W,s)=>k W s
    |none=>False
  |.nt c C=>match lx (ak d c) (ak d C) a with
    |some W=>k W a
    |none=>False
  |.qY c C m=>match x8 (ak d c) (ak d C) (ak d m)with
    |some W=>k W a
    |none=>False
  |.ns h bytes g c C=>match ak d c,ak d C with
    |.aq o b D L,.v (.int .i64 r)=>match a.read o with
      |some p=>L=h/\α p=D*h/\0<=r/\D<b+r.toNat/\(b+r.toNat)*bytes<=140737488355328/\b+r.toNat<=9223372036854775807/\
        ∀y F T,a y=ε->b+r.toNat<=F->F<=maxLen->α T=(F -(b+r.toNat))*h->k (.aq y (b+r.toNat) F h) (a.set y (.cells (p.take (b*h)++(δ r.toNat g).flatten++T)))
      |none=>False
    |.J xs S,.v (.int .i64 r)=>xs=[]/\S=.nil/\0<r/\r.toNat*bytes<=140737488355328/\r<=9223372036854775807/\
        ∀y F T,a y=ε->r.toNat<=F->F<=maxLen->α T=(F - r.toNat)*h->k (.aq y r.toNat F h) (a.set y (.cells ((δ r.toNat g).flatten++T)))
    |_,_=>False
def x9{c:Fr}{d h:Ψ->Prop}(k:∀o,d o->h o):∀(p:List (Nat×Nat×Operand))(b:Ψ),kC c b p d->kC c b p h
 |[],b,a=>k _ a
 |(_,_,_)::r,_,a=>⟨a.1,a.2.1,x9 k r _ a.2.2⟩
variable{e3:cc}{K:Ctx}{j:Fr}
theorem Bv(c:∀p r,q p r->Y p r)(a:G K e3 j f q):G K e3 j f Y:=by
 cases e3<;>simp only[G]at a|-
 case fZ V x=>exact a.mono c (λ_ _ a=>a)
 case np b=>grind
 case ml=>grind
 case nq=>grind
 case nr=>grind
 case nt=>grind
 case qY=>grind
 case ns h bytes y b k=>
  grind
 case jc b x=>split at a;(exact⟨a.1,a.2.mono c (λ_ _ a=>a)⟩);trivial
 case nm=>exact a
 case kz=>grind
 case oC=>grind
 case oD b=>
  split at a
  case h_2=>omega
  refine⟨a.1,?_⟩;have d:=a.2;split at d
  case h_2=>trivial
  split at d
  case h_2=>trivial
  exact⟨d.1,λz=>c _ _ (d.2.1 z),λC D E=>c _ _ (d.2.2 C D E)⟩
 case oF=>grind
 case oE b=>
  split at a
  case h_2=>omega
  refine⟨a.1,?_⟩;have d:=a.2;split at d
  case h_2=>trivial
  split at d
  case h_2=>trivial
  refine⟨d.1,?_⟩;have o:=d.2;split at o
  .exact c _ _ o
  .exact o
 case kA=>simp_all
 case kB W F y b h=>
  split at a
  case h_2=>omega
  grind
 case lr F b h v=>
  grind
 case nn b=>
  split at a
  case h_2=>omega
  grind
 case pick=>grind
 case mh e g=>exact x9 (λ_ a=>c _ _ a) _ _ a
 case alloc=>simp_all
 case box=>simp_all
 case lp=>simp_all
 case kx=>grind
 case mi=>grind
 case kv h L b P S=>
  (repeat' split at a)<;>first
   |exact a.elim
   |simp_all
   |exact a.2.2.2.elim
 case nj h b k=>
  grind
 case nk i b=>
  grind
 case ky=>grind
 case mj h bytes b k=>
  split at a
  case h_2=>omega
  split at a;grind;grind;grind
  .omega
 case kt=>grind
 case app h bytes b k=>
  grind
 case ku h L b P S l=>
  (repeat' split at a)<;>first
   |exact a.elim
   |simp_all
   |simp_all
   |exact a.2.2.2.elim
 case dU h b T=>
  grind
 case mg b T=>
  grind
 all_goals
  (repeat' split at a)<;>first
   |exact a.elim
   |exact c _ _ a
   |exact⟨a.1,c _ _ a.2⟩
   |exact⟨a.1,a.2.1,c _ _ a.2.2⟩
   |exact⟨a.1,a.2.1,a.2.2.1,c _ _ a.2.2.2⟩
   |exact⟨a.1,a.2.1,a.2.2.1,a.2.2.2.1,c _ _ a.2.2.2.2⟩
   |exact⟨a.1,a.2.1,a.2.2.1,a.2.2.2.1,a.2.2.2.2.1,c _ _ a.2.2.2.2.2⟩
def fI:List c6->List Value->Prop
 |[],[]=>True
 |a::bI,b::xs=>a.fit b/\fI bI xs
 |_,_=>False
def r0(b:Program)(c:TypeId->Option (List c6)):List Field->Nat->Option (List c6)
 |[],_=>β []
 |a::h,off=>
  if a.offset=off/\a.name≠ "_" then
   match c a.type,r0 b c h (off+b.cellsOf a.type)with
   |some d,β k=>if b.cellsOf a.type=α d/\(b.info? a.type).isSome then β (d++k)else ε
   |_,_=>ε
  else ε
def flatK(a:Program):Nat->TypeId->Option (List c6)
 |0,_=>ε
 |c+1,d=>
  match a.underlying d with
  |some (.int k)=>β [.int k]
  |some .bool=>β [.bool]
  |some .string=>β [.str]
  |some (.array o b)=>match flatK a c b with
   |some h=>if a.cellsOf b=α h/\(a.info? b).isSome then β (δ o h).flatten else ε
   |none=>ε
  |some (.struct p)=>if a.stoodInHeld d then ε else r0 a (flatK a c) p.toList 0
  |_=>ε
theorem oG:∀ {a:List c6}{b:List Value},fI a b->α b=α a
 |[],[],_=>rfl
 |_:: _,_:: _,c=>by simp[oG c.2]
def pM:∀ {a d:List c6}{b:List Value},fI (a++d) b->fI a (b.take (α a))/\fI d (b.drop (α a))
 |[],_,_,c=>by simp[fI];trivial
 |_:: _,_,[],c=>by trivial
 |_:: _,_,_:: _,c=>by
  obtain⟨k,h⟩:=c;obtain⟨o,p⟩:=pM h;trivial
variable{e2:IntKind}{b0:TypeId}
section
def r1(d:Program)(y:Nat)(h:TypeId)(a:List c6):Prop:=
 ∀(z:Nat)(b:World)(k o:Array Value)(c:Nat),fI a ((k.toList.drop c).take (α a))->fI a ((o.toList.drop c).take (α a))->
  ∃p r x,(part h k c).run d b=.ok p b/\(part h o c).run d b=.ok r b/\(Op.equalIn (z+y) h p r).run d b=.ok x b/\
   (x=ζ↔(k.toList.drop c).take (α a)=(o.toList.drop c).take (α a))
def xa{a:TypeDesc}(c:m.underlying b0=β a)(b:World):(isAgg b0).run m b=.ok a.isRow b:=by unfold isAgg;rw[Sem.run_bind,run_underlying c b];cases a<;>rfl
def mn{b:TypeDesc}(k:m.underlying b0=β b)(o:b.isRow=ζ){c:TypeInfo}(p:m.info? b0=β c)(d:Array Value)(a:Nat)(h:World):
  (part b0 d a).run m h=.ok (.agg (d.extract a (a+c.size))) h:=by
 simp[part,xa k,o,sizeOf,typeInfo,p]
def oH{a:TypeDesc}(k:m.underlying b0=β a)(o:a.isRow=θ)(b:Array Value)(c:Nat)(d:Value)(p:b[c]?=β d)(h:World):
  (part b0 b c).run m h=.ok d h:=by
 simp[part,xa k,o,p]
def one_cell{b:Array Value}{h:c6}(c:fI [h] ((b.toList.drop e).take 1)):∃a,b[e]?=β a/\h.fit a/\(b.toList.drop e).take 1=[a]:=by
 cases d:(b.toList.drop e)with
 |nil=>simp[d,fI]at c
 |cons a k=>
  refine⟨a,?_,?_,acr⟩
  .have:(b.toList.drop e)[0]?=β a:=by simp[d]
   simpa using this
  .rw[d]at c;exact c.1
theorem IW(a b:ByteArray):a.toList=b.toList↔a=b:=by
 constructor
 .intro c;rw[ByteArray.toList_eq,ByteArray.toList_eq]at c;cases a;simp_all
 .rintro rfl;rfl
def IX(a:m.underlying b0=β (.int e2)):r1 m (e+1) b0 [.int e2]:=by
 intro h b D E F k o;obtain⟨p,r,c,x⟩:=one_cell k;obtain⟨y,z,d,C⟩:=one_cell o;rw[a9L,x,C,show h+(e+1)=(h+e)+1 by omega];cases p<;>first|exact c.elim|skip
 cases y<;>first|exact d.elim|skip
 simp only[c6.fit]at c d;subst c;subst d;exact⟨_,_,_,oH a rfl _ _ _ r b,oH a rfl _ _ _ z b,run_equalIn_int b _ b0 _ _ _ _ a,acr⟩
def IY(a:m.underlying b0=β .bool):r1 m (e+1) b0 [.bool]:=by
 intro c b D E F d h;obtain⟨k,o,p,r⟩:=one_cell d;obtain⟨x,y,z,C⟩:=one_cell h;rw[a9L,r,C,show c+(e+1)=(c+e)+1 by omega];cases k<;>first|exact p.elim|skip
 cases x<;>first|exact z.elim|skip
 exact⟨_,_,_,oH a rfl _ _ _ o b,oH a rfl _ _ _ y b,run_equalIn_bool' b _ b0 _ _ a,acr⟩
def IZ(a:m.underlying b0=β .string):r1 m (e+1) b0 [.str]:=by
 intro c b D E F d h;obtain⟨k,o,p,r⟩:=one_cell d;obtain⟨x,y,z,C⟩:=one_cell h;rw[a9L,r,C,show c+(e+1)=(c+e)+1 by omega];cases k<;>first|exact p.elim|skip
 cases x<;>first|exact z.elim|skip
 exact⟨_,_,_,oH a rfl _ _ _ o b,oH a rfl _ _ _ y b,run_equalIn_string b _ b0 _ _ a,by rw[beq_iff_eq,IW];simp⟩
theorem Bw{y:Nat}{o:TypeId}{a:List c6}(z:r1 m y o a)(C:m.cellsOf o=α a)(x:Nat)(p:World)(d h:Array Value):∀(b c:Nat),
  fI (δ b a).flatten ((d.toList.drop (c*α a)).take (δ b a).flatten.length)->fI (δ b a).flatten ((h.toList.drop (c*α a)).take (δ b a).flatten.length)->
  ∃k,(Op.eqItems (x+y) o (m.cellsOf o) d h (List.range' c b)).run m p=.ok k p/\
   (k=ζ↔(d.toList.drop (c*α a)).take (δ b a).flatten.length=(h.toList.drop (c*α a)).take (δ b a).flatten.length)
 |0,c,_,_=>⟨ζ,by rfl,acr⟩
 |b+1,c,D,E=>by
  simp only[aan,a9Z]at D E|-;obtain⟨F,G⟩:=pM D;obtain⟨L,P⟩:=pM E;have W:min (α a) (a++(δ b a).flatten).length=α a:=acr;have e:(a++(δ b a).flatten).length - α a=(δ b a).flatten.length:=acr;rw[a9B,W]at F L;rw[a9F,a8T,e,show c*α a+α a=(c+1)*α a by rw[a9s,aaW]]at G P;obtain⟨l,n,k,S,T,f,g⟩:=z x p d h (c*α a) F L;obtain⟨i,q,j⟩:=Bw z C x p d h b (c+1) G P;have V:∀r:List Value,r.take (a++(δ b a).flatten).length=r.take (α a)++(r.drop (α a)).take (δ b a).flatten.length:=λr=>by
   grind
  rw[List.range'_succ];rw[<-C]at S T;simp only[Op.eqItems,Sem.run_bind,S,T,f,Result.andThen_ok];have s:((d.toList.drop (c*α a)).take (a++(δ b a).flatten).length=(h.toList.drop (c*α a)).take (a++(δ b a).flatten).length)↔(k=ζ/\i=ζ):=by rw[V,V,a8T,a8T,show c*α a+α a=(c+1)*α a by grind,g,j];grind[List.append_inj,oG]
  cases k;simp_all;simp_all
theorem Bx{C:Nat}{D:TypeId->Option (List c6)}(E:∀o a,D o=β a->m.cellsOf o=α a->(m.info? o).isSome->r1 m C o a)(y:Nat)(p:World)(h k:Array Value):∀(r:List Field)(b:Nat)(d:List c6),
  r0 m D r b=β d->fI d ((h.toList.drop b).take (α d))->fI d ((k.toList.drop b).take (α d))->
  ∃c,(Op.eqFields (y+C) h k r).run m p=.ok c p/\(c=ζ↔(h.toList.drop b).take (α d)=(k.toList.drop b).take (α d))
 |[],b,d,hk,_,_=>by
  simp_all [r0,Op.eqFields]
 |s::r,b,d,hk,e,f=>by
  simp only[r0]at hk;split at hk
  case isFalse=>cases hk
  rename_i F;split at hk
  case h_2=>cases hk
  rename_i a c g i;split at hk
  case isFalse=>cases hk
  rename_i z;obtain rfl:=Β hk;obtain⟨G,L⟩:=pM e;obtain⟨P,S⟩:=pM f;have j:min (α a) (a++c).length=α a:=acr;have l:(a++c).length - α a=α c:=acr;rw[a9B,j]at G P;rw[a9F,a8T,l,<-z.1]at L S;obtain⟨t,u,T,V,W,n,v⟩:=E _ _ g z.1 z.2 y p h k b G P;obtain⟨q,w,A⟩:=Bx E y p h k r _ _ i L S;have B:∀x:List Value,x.take (a++c).length=x.take (α a)++(x.drop (α a)).take (α c):=λx=>by
   grind
  rw[<-F.1]at V W;simp only[Op.eqFields,if_pos F.2,Sem.run_bind,V,W,n,Result.andThen_ok];have H:((h.toList.drop b).take (a++c).length=(k.toList.drop b).take (a++c).length)↔(T=ζ/\q=ζ):=by grind[List.drop_drop,List.append_inj,oG]
  cases T;simp_all;simp_all
def ux(b:Array Value)(a c:Nat):(b.extract a (a+c)).toList=(b.toList.drop a).take c:=by simp
theorem uy:∀(d:Nat)(c:TypeId)(k:List c6),flatK m d c=β k->m.cellsOf c=α k->(m.info? c).isSome->r1 m d c k
 |0,c,k,a,_,_=>by trivial
 |d+1,c,k,a,T,V=>by
  simp only[flatK]at a;cases hu:m.underlying c with
  |none=>simp[hu]at a
  |some desc=>
   simp only[hu]at a;cases desc<;>simp only[]at a<;>first
    |(cases a;done)
    |skip
   case int s=>obtain rfl:=Β a;exact IX hu
   case bool=>obtain rfl:=Β a;exact IY hu
   case string=>obtain rfl:=Β a;exact IZ hu
   case array W g=>
    split at a
    case h_2=>cases a
    rename_i E i;split at a
    case isFalse=>cases a
    rename_i F;obtain rfl:=Β a;have ih:=uy d g E i F.1 F.2;obtain⟨o,p⟩:=a8X.1 V;obtain⟨t,j⟩:=a8X.1 F.2;have G:o.size=(δ W E).flatten.length:=by simpa[Program.cellsOf,p] using T
    intro y h r x b z C;have D:=Bw ih F.1 y h (r.extract b (b+o.size)) (x.extract b (b+o.size)) W 0;simp only[abk,a9I,ux,G]at D;rw[a9B,aak,a9B,aak]at D;obtain⟨L,e,P⟩:=D z C;refine⟨_,_,L,mn hu rfl p r b h,mn hu rfl p x b h,?_,P⟩;rw[show y+(d+1)=(y+d)+1 by omega,run_equalIn_array h (y+d) _ _ hu j,List.range_eq_range',G];exact e
   case struct f=>
    split at a;trivial;rename_i u;obtain⟨o,p⟩:=a8X.1 V;have G:o.size=α k:=by simpa[Program.cellsOf,p] using T
    have v:m.fieldsOf c=f:=by simp[Program.fieldsOf,hu]
    intro y h r x b z C;have D:=λr x z C=>
     Bx (λc E l n q=>uy d c E l n q) y h r x f.toList 0 k a z C
    have S:=D (r.extract b (b+o.size)) (x.extract b (b+o.size));simp only[a9I,ux,G]at S;rw[a9B,aak,a9B,aak]at S;obtain⟨L,e,P⟩:=S z C;refine⟨_,_,L,mn hu rfl p r b h,mn hu rfl p x b h,?_,P⟩;grind[run_equalIn_struct]
end
def jS(b:List (Nat×c6)):List c6:=b.flatMap λa=>δ a.1 a.2
def mo:List c6->List (Nat×c6)
 |[]=>[]
 |a::bI=>match mo bI with
  |(c,b)::d=>if a=b then(c+1,b)::d else(1,a)::(c,b)::d
  |[]=>[(1,a)]
theorem uz:∀a:List c6,jS (mo a)=a
 |[]=>rfl
 |b::a=>by
  have ih:=uz a;grind[mo,jS]
theorem pN{P:bk}:∀(C:List (Nat×c6))(a:Ψ)(b:List Value),di C a->α b=α a->(∀(c:Nat)(d:Value)(h:R),b[c]?=β d->a[c]?=β h->bb P d h)->
  fI (jS C) b/\a=b.map R.v
 |[],a,b,p,o,_=>by
  simp only[di]at p;subst p;have:=a8q (by trivial);subst this;trivial
 |(r,x)::C,a,b,p,o,D=>by
  obtain⟨V,W,e⟩:=p;obtain⟨l,m⟩:=pN C (a.drop r) (b.drop r) e (by simp[o]) (λc d h G L=>D (r+c) d h (by simpa using G) (by simpa using L));have f:∀(y)(a)(b),α b=α a->α a=y->(∀k∈a,x.uw k)->(∀(c:Nat)(d)(h),b[c]?=β d->a[c]?=β h->bb P d h)->
    (∀E F,fI F E->fI (δ y x++F) (b++E))/\a=b.map R.v:=by
   intro y
   induction y with
   |zero=>grind
   |succ y ih=>
    intro a b o hm S D
    match a,b,o,hm with
    |k::a,v::b,o,hm=>
     obtain⟨g,i⟩:=ih a b (by simpa using o) (by simpa using hm) (λk z=>S k (a9H _ z)) (λc d h G L=>D (c+1) d h (by trivial) (by trivial));have z:=S k aa6;have j:=D 0 v k rfl rfl;have T:k=.v v/\x.fit v:=by
      cases k<;>first
       |(cases x<;>exact z.elim)
       |skip
      cases j;refine⟨rfl,?_⟩;cases x<;>cases v<;>first|exact z|exact z.elim
     refine⟨λE F p=>⟨T.2,g E F p⟩,by rw[T.1,i];rfl⟩
  obtain⟨n,q⟩:=f r (a.take r) (b.take r) (by simp[o]) (by simp[V]) W (λc d h G L=>by
   grind)
  grind[jS,List.take_append_drop]
def bN(y:Program)(z:R->U->Prop)(o:Oper)(h:Act)(k:World)(p:bk)(r:U)(C:R->U->Prop):Prop:=
 ∀x:Exit->Act->World->Prop,(∀v a b c d,Step p r k b c d->bb b v a->up z a c->x (.panic [{v,recovered:=θ}]) h d)->o.wp y h k (λD d=>∃v b c a,D=h.put o.dst v/\Step p r k b c d/\bb b v a/\C a c) x
variable{M e7 j0:Own}
section
variable{o:Oper}{a:Act}
def bN.value{v:Value}{b:bk}(c:(execOp a.eval o).run m l=.ok (.value v) j3)(d:Step u f l b s j3)(h:bb b v n)(k:Y n s):bN m q o a l u f Y:=by intro p _;unfold Oper.wp;rw[c];exact⟨v,b,s,n,rfl,d,h,k⟩
def bN.same{v:Value}(b:Holds u f l)(c:(execOp a.eval o).run m l=.ok (.value v) l)(d:bb u v n)(h:Y n f):bN m q o a l u f Y:=
 .value c (.refl b) d h
def bN.skip{b:bk}(c:(execOp a.eval o).run m l=.ok .skip j3)(d:Step u f l b s j3)(h:Y (.aJ []) s):bN m q o a l u f Y:=by intro k _;unfold Oper.wp;rw[c];exact⟨undef,b,s,.aJ [],rfl,d,bb.undef _,h⟩
def bb.ds{b:Value}(c:bb u e6 (.v b)):e6=b:=by cases c;rfl
def bb.iE(b:bb u e6 (.ptr e i)):e6=.pointer (β ⟨e,i,ε⟩):=by cases b;rfl
theorem bb.aQ{k:Array Value}{c:Ψ}(p:bw u k c)(r:∀h∈c,h.one=ζ)(b d:Nat)(x:b+d<=α c):bb u (.agg (k.extract b (b+d))) (aQ ζ d (c.drop b)):=by have:=p.sub b d x;exact .agg _ _ (λh y=>r h (a8O (a8v y))) this.1 this.2
theorem bb.xb{c:Array Value}(d:bw u c g)(b:Nat)(p:b+1<=α g):bb u (c.getD b Go.undef) (bD.aQ θ 1 (g.drop b)):=by
 have h:b<α g:=acq;have:=d.2 b g[b] (Μ h);have k:bD.aQ θ 1 (g.drop b)=g[b]:=by unfold bD.aQ;simp_all
 rw[k];exact this
theorem Holds.read{l:Nat}{p:Ψ}(k:Holds u f j3)(b:f.read l=β p):(∀h∈p,h.one=ζ)/\∃d T z,j3.heap[l]?=β (.cells d T z)/\bw u d p:=by
 unfold U.read at b;split at b
 .rename_i h c;obtain rfl:=Β b;obtain⟨r,d,T,x,y,_⟩:=k.cx l _ c;simp_all
 .rename_i h c;obtain rfl:=Β b;obtain⟨r,d,T,z,x,y,_⟩:=k.cx l _ c;simp_all
 .rename_i T h c;obtain rfl:=Β b;obtain⟨r,d,x,y,_⟩:=k.cx l _ c;simp_all
 .rename_i h c;obtain rfl:=Β b;obtain⟨r,d,T,x,y,_⟩:=k.cx l _ c;simp_all
 .cases b
def xc(b:World)(c:TypeId)(d:TypeDesc)(h:Addr)(k:Value)(p:m.underlying c=β d)(r:d.isRow=θ)(x:b.cell? h=β k):(loadVar c h).run m b=.ok k b:=by simp[loadVar,xa p,r,x]
theorem J0(r:TypeId)(C:Operand)(S:o.op=.load r C)(h:TypeDesc)(y:m.underlying r=β h)(c:Nat)(B:(m.info? r).map (·.size)=β c)(H:h.isRow=θ->c=1)
  (M:aM C=ζ) (N:bK u a j) (z:Holds u f l) (D:G ⟨m,q⟩ (.load h.isRow c C) j f Y):bN m q o a l u f Y:=by
 have E:=N.ak C M;simp only[G]at D;split at D
 .rename_i F b i;rw[i]at E;have I:=E.iE;split at D
  case h_2=>trivial
  rename_i V O;obtain⟨W,k⟩:=D;obtain⟨n,p,T,k6,Q,e⟩:=z.read O;cases d:h.isRow with
  |true=>
   rw[d]at k;have s:l.rangeAt F b ((p.toList.drop b).take c):=by intro L v t;grind[cell_of_row]
   have X:((p.toList.drop b).take c).length=c:=by have:=e.1;simp;omega
   have x:=run_loadAt_mid l F b r ((p.toList.drop b).take c) h s y d (by rw[X];exact B);refine .same z (v:=.agg ((p.toList.drop b).take c).toArray) ?_ ?_ k
   .simp[execOp,S,I,x]
   .have:=bb.aQ e n b c W;rw[show((p.toList.drop b).take c).toArray=p.extract b (b+c) by grind];exact this
  |false=>
   rw[d]at k;obtain rfl:=H d;have Z:b<p.size:=by have:=e.1;omega
   have P:l.cell? ⟨F,b,ε⟩=β (p.getD b undef):=by rw[cell_of_row l F b p T _ Q];simp[Z]
   have x:=xc l r h ⟨F,b,ε⟩ _ y d P;refine .same z ?_ (bb.xb e b W) k;simp[execOp,S,I,Instr.loadAt,Instr.sureAddr,x]
 .rename_i V i;rw[i]at E;obtain⟨W,k⟩:=D;generalize K:a.eval C=k7 at E;cases E with
  |bZ w b g V n hH k3=>
   have k4:=λL t=>z.ro _ _ _ (hH L t);cases d:h.isRow with
   |true=>
    rw[d]at k;have s:l.rangeAt w b ((χ c).map g):=by intro L v t;grind
    have x:=run_loadAt_mid l w b r ((χ c).map g) h s y d (by simp[B]);refine .same z (v:=.agg ((χ c).map g).toArray) ?_ ?_ k
    .simp only[execOp,S,K,Sem.run_bind,x];rfl
    .refine .agg _ _ (λA P=>n A (a8v P)) acs (λL k8 y=>?_);have k5:L<c:=by grind
     rw[a9j k5]at y;simp_all
   |false=>
    rw[d]at k;obtain rfl:=H d;have P:=k4 0 acq;have x:=xc l r h ⟨w,b,ε⟩ _ y d P;refine .same z (v:=g 0) ?_ ?_ k
    .simp[execOp,S,K,Instr.loadAt,Instr.sureAddr,x]
    .match V,W with
     |A::V,_=>exact k3 0 A rfl
 .trivial
theorem J1(k:TypeId)(c b:Array Value)(d:Nat){h:Nat×Nat}(x:l.heap[e]?=β (.cells c b0 h))(y:∀p,p<c.size->¬(h.1<=p/\p<h.2))(F:d+b.size<=c.size)(z:∀C∈b.toList,C.oneCell'=ζ)(v:Value)(G:v.cells=b)
  (D:(m.info? k).map (·.size)=β b.size):(Instr.storeAt k (.pointer (β ⟨e,d,ε⟩)) v).run m l=.ok () (l.setRow e (dh c d b.toList)):=by
 have r:=uv m e d b0 h b.toList 0 c l x y (by trivial) z;simp only[aab]at r;have L:(storeCells ⟨e,d,ε⟩ b.toList).run m l=.ok () (l.setRow e (dh c d b.toList)):=by rw[r];rfl
 cases E:m.info? k with
 |none=>simp[E]at D
 |some P=>simp_all [Instr.storeAt,Instr.sureAddr,storeVar,sizeOf,typeInfo]
def J2(k:TypeId)(c b:Operand)(C:o.op=.store k c b)(p:Nat)(D:(m.info? k).map (·.size)=β p)(v:0<p)(E:aM c=ζ)(F:aM b=ζ)(r:bK u a j)(L:Holds u f l)
  (d:G ⟨m,q⟩ (.store p c b) j f Y):bN m q o a l u f Y:=by
 have x:=r.ak c E;have P:=r.ak b F;simp only[G]at d;split at d
 case h_2=>trivial
 rename_i w y S;rw[S]at x;split at d
 .rename_i A V;obtain⟨W,B,e⟩:=d;have g:=x.iE;obtain⟨h,z⟩:=P.cells acq;obtain⟨i,T,n,H,s⟩:=Step.store L V y (ak j b).cells (a.eval b).cells h z acq;refine .skip ?_ s e;have t:=J1 k i (a.eval b).cells y n (x4 _) (by have:=h.1;omega) (h.ov z) (a.eval b) rfl (by rw[D,h.1,W]);simp only[execOp,C,g,Sem.run_bind,t];rfl
 .trivial
def J3(c:TypeId)(p:o.op=.alloc c)(h:TypeInfo)(r:m.info? c=β h)(b:Value)(x:h.zero=β b)(y:∀d∈b.cells.toList,d.oneCell'=ζ)(k:Holds u f l)
  (z:G ⟨m,q⟩ (.alloc c (b.cells.toList.map cV)) j f Y):bN m q o a l u f Y:=by
 refine .value ?_ (Step.new k b.cells c (b.cells.toList.map cV) (λD C=>by obtain⟨d,_,rfl⟩:=a8D.1 C;exact oz d) (bw.pE u _ y))
  (.ptr _ _) (z _ k.eh)
 simp[execOp,p,Instr.alloc,zeroValue,typeInfo,r,x,newVar,newRow]
theorem J4(c:TypeId)(b:Operand)(k:o.op=.box c b)(p:aM b=ζ)(r:bK u a j)(d:Holds u f l)(h:G ⟨m,q⟩ (.box c b) j f Y):bN m q o a l u f Y:=by obtain⟨x,y⟩:=(r.ak b p).cells h.1;refine .value ?_ (Step.new d _ c _ y x) (.ptr _ _) (h.2 _ d.eh);simp[execOp,k,Instr.box,newVar,newRow]
def By(b:Operand)(c:o.op=.move b\/o.op=.assign b)(d:aM b=ζ)(h:bK u a j)(k:Holds u f l)(p:G ⟨m,q⟩ (.fi b) j f Y):bN m q o a l u f Y:=by refine .same k ?_ (h.ak b d) p;rcases c with c|c<;>simp[execOp,c]
theorem J5(b c d:Operand)(k:o.op=.pick b c d)(z:aM b=ζ)(C:aM c=ζ)(D:aM d=ζ)(h:bK u a j)(p:Holds u f l)(r:G ⟨m,q⟩ (.pick b c d) j f Y):bN m q o a l u f Y:=by
 have x:=h.ak b z;simp only[G]at r;split at r
 case h_2=>trivial
 rename_i E F;rw[F]at x;have y:=x.ds;cases E
 .exact .same p (by simp[execOp,k,y,asBool]) (h.ak d D) (by trivial)
 .exact .same p (by simp[execOp,k,y,asBool]) (h.ak c C) (by trivial)
def J6(c:Operand)(k:o.op=.nilCheck c)(x:aM c=ζ)(y:bK u a j)(p:Holds u f l)(d:G ⟨m,q⟩ (.qS c) j f Y):bN m q o a l u f Y:=by
 have b:=y.ak c x;simp only[G]at d;split at d
 .rename_i D E h;rw[h]at b;have:=b.iE;exact .same p (by simp[execOp,k,this]) (.ptr _ _) d
 .rename_i z h;rw[h]at b;generalize r:a.eval c=C at b;refine .same p ?_ b d;cases b;simp[execOp,k,r]
 .rename_i F z h;rw[h]at b;generalize r:a.eval c=C at b;refine .same p ?_ b d;cases b;simp[execOp,k,r]
 .trivial
theorem Bz(k:bb u e6 (.bZ g))(d:Nat):∃b c,e6=.pointer (β ⟨b,c,ε⟩)/\bb u (.pointer (β ⟨b,c+d,ε⟩)) (.bZ (g.drop d)):=by
 cases k with
 |bZ b c p g r hH z=>refine⟨b,c,rfl,.bZ b (c+d) (λh=>p (d+h)) _ (λx y=>r x (a8O y)) (λh C=>?_) (λh D E=>?_)⟩;grind;grind
theorem hr(b c d:Nat):(⟨b,c,ε⟩:Addr).add d=⟨b,c+d,ε⟩:=Addr.add_mid b c d
theorem J7(r:TypeId)(d:Operand)(x:Nat)(C:o.op=.fieldAddr r d x)(D:Array Field)(e:m.underlying r=β (.struct D))(b:Field)(g:D[x]?=β b)(E:Nat)(P:(m.info? b.type).map (·.size)=β E)(i:E≠0)
  (S:aM d=ζ) (T:bK u a j) (F:Holds u f l) (h:G ⟨m,q⟩ (.lq b.offset d) j f Y):bN m q o a l u f Y:=by
 have k:=T.ak d S;have L:∀p c:Nat,(Instr.fieldAt r (.pointer (β ⟨p,c,ε⟩)) x).run m l=.ok (.pointer (β ⟨p,c+b.offset,ε⟩)) l:=by
  intro p c;cases V:m.info? b.type with
  |none=>simp[V]at P
  |some ii=>simp_all [Instr.fieldAt,run_underlying,Instr.sureAddr,fieldPlace,sizeOf,typeInfo,hr]
 simp only[G]at h;split at h
 .rename_i n c y;rw[y]at k;have z:=k.iE;exact .same F (by simp only[execOp,C,z,Sem.run_bind,L];rfl) (.ptr _ _) h
 .rename_i s y;rw[y]at k;obtain⟨p,c,z,W⟩:=Bz k b.offset;exact .same F (by simp only[execOp,C,z,Sem.run_bind,L];rfl) W h
 .trivial
theorem J8(C:TypeId)(h k:Operand)(A:o.op=.indexAddr C h k)(D:Nat)(E:TypeId)(W:m.underlying C=β (.array D E))(c:Nat)(S:(m.info? E).map (·.size)=β c)
  (e:aM h=ζ) (g:aM k=ζ) (T:bK u a j) (V:Holds u f l) (p:G ⟨m,q⟩ (.qT c D h k) j f Y):bN m q o a l u f Y:=by
 have r:=T.ak h e;have x:=T.ak k g;have B:∀(y d)(z)(b:Int),0<=b->b<D->(Instr.indexAt C (.pointer (β ⟨y,d,ε⟩)) (.int z b)).run m l=.ok (.pointer (β ⟨y,d+b.toNat*c,ε⟩)) l:=by
  intro y d z b i n;cases F:m.info? E with
  |none=>simp[F]at S
  |some ii=>
   have s:ii.size=c:=by simpa[F] using S
   simp[Instr.indexAt,asIntOf,run_underlying W,Instr.sureAddr,i,n,sizeOf,typeInfo,F,s,hr]
 simp only[G]at p;split at p
 .rename_i H d z b L P;rw[L]at r;rw[P]at x;have t:=r.iE;have v:=x.ds;exact .same V (by simp_all [execOp]) (.ptr _ _) p.2.2
 .rename_i I z b L P;rw[L]at r;rw[P]at x;have v:=x.ds;obtain⟨y,d,t,w⟩:=Bz r (b.toNat*c);exact .same V (by simp_all [execOp]) w p.2.2
 .trivial
theorem cW{d:Nat}:∀ {b:Ψ},(∀c∈b,α c.cells=d)->(flat b).length=α b*d
 |[],_=>by simp[flat]
 |k::b,h=>by
  have:=cW (λc p=>h c (a9H _ p));have r:=h k aa6;simp only[flat,a8I,Ρ,a8m,a9s,aaW]at this|-;omega
theorem ga{d:Nat}:∀ {c:Ψ} (b:Nat),(∀h∈c,α h.cells=d)->(flat c).drop (b*d)=flat (c.drop b)/\(flat c).take (b*d)=flat (c.take b)
 |c,0,_=>by simp[flat]
 |[],b+1,_=>by simp[flat]
 |k::c,b+1,p=>by
  obtain⟨x,y⟩:=ga b (λh r=>p h (a9H _ r));have z:=p k aa6;have h:(b+1)*d=α k.cells+b*d:=by grind
  grind[flat,List.drop_append,List.drop_of_length_le,Nat.add_sub_cancel_left]
def bb.xd(x:bb u e6 (.J g M))(L:g≠[]):∃(c d h k:Nat)(p:Nat->Value),e6=.slice (β ⟨c,d,ε⟩) (α g) h/\0<k/\α g<=h/\(∀y∈g,α y.cells=k)/\(∀z∈flat g,z.one=ζ)/\
  (∀b,b<α g*k->u c (d+b)=β (p b))/\(∀b r,(flat g)[b]?=β r->bb u (p b) r)/\M.ok c d h:=by
 cases x with
 |dn=>trivial
 |J c d len h k p g M hk hlen C D E hH F G=>subst hlen;exact⟨c,d,h,k,p,rfl,hk,C,D,E,hH,F,G⟩
theorem J9(e:TypeId)(y S:Operand)(O:o.op=.indexAddr e y S)(g:TypeId)(T:m.underlying e=β (.slice g))(c:Nat)(A:(m.info? g).map (·.size)=β c)
  (Q:aM y=ζ) (X:aM S=ζ) (B:bK u a j) (i:Holds u f l) (h:G ⟨m,q⟩ (.dU c y S) j f Y):bN m q o a l u f Y:=by
 have k:=B.ak y Q;have z:=B.ak S X;have Z:∀(C p len r:Nat)(D)(b:Int),0<=b->b<len->(Instr.indexAt e (.slice (β ⟨C,p,ε⟩) len r) (.int D b)).run m l=.ok (.pointer (β ⟨C,p+b.toNat*c,ε⟩)) l:=by
  intro C p len r D b E V;cases n:m.info? g with
  |none=>simp[n]at A
  |some ii=>
   have k3:ii.size=c:=by simpa[n] using A
   simp[Instr.indexAt,asIntOf,run_underlying T,E,V,sizeOf,typeInfo,n,k3,hr]
 simp only[G]at h;split at h
 .rename_i s l2 D b F L;rw[F]at k;rw[L]at z;have t:=z.ds;obtain⟨E,h⟩:=h;split at h
  case h_2=>trivial
  rename_i el H;obtain⟨k4,P⟩:=h;have l3:=(a8p.1 H).1;obtain⟨C,p,r,v,k5,l4,l5,I,w,l6,k6,k7,_⟩:=k.xd (by grind);have k8:=a8r H;obtain rfl:c=v:=by rw[<-k4];exact w el k8
  have l7:b<(α s):=acq;refine .same i (v:=.pointer (β ⟨C,p+b.toNat*c,ε⟩)) (by simp_all [execOp]) ?_ P;have K:∀d x,el.cells[d]?=β x->(flat s)[b.toNat*c+d]?=β x:=λd x T=>by
   have l8:=(ga b.toNat w).1;have:((flat s).drop (b.toNat*c))[d]?=β x:=by grind[Θ,Ε,flat,List.getElem?_append_left]
   simpa using this
  refine .bZ C _ (λd=>k5 (b.toNat*c+d)) _ (λl9 n0=>?_) (λd k9=>?_) (λd x T=>k7 _ x (K d x T));grind[List.getElem?_of_mem,List.mem_of_getElem?]
  .rw[abw];refine k6 _ ?_;have:=(a8p.1 (K d _ (Μ k9))).1;rwa[cW w]at this
 .rename_i W p len n1 v D b F L;rw[F]at k;rw[L]at z;have t:=z.ds;obtain⟨rfl,E,V,P⟩:=h;generalize M:a.eval y=l0 at k;cases k with
  |bE W p len r c l1 I=>exact .same i (by simp_all [execOp]) (.ptr _ _) P
 .rename_i W len r v D b F L;rw[F]at k;rw[L]at z;have t:=z.ds;obtain⟨rfl,E,V,P⟩:=h;generalize M:a.eval y=l0 at k;cases k with
  |aq W len r c l1 I=>have N:=Z W 0 len r D b E V;rw[a8J]at N;exact .same i (by simp only[execOp,O,M,t,Sem.run_bind,N];rfl) (.ptr _ _) P
 .trivial
end
section
variable{o:Oper}{a:Act}
theorem BA{c:Array Value}(p:bw u c g)(L:∀z∈g,z.one=ζ)(h:TypeId)(k:TypeDesc)(C:m.underlying h=β k)(d:Nat)(r:(m.info? h).map (·.size)=β d)(D:k.isRow=θ->d=1)
  (b:Nat) (E:b+d<=α g):∃v,(∀l,(part h c b).run m l=.ok v l)/\bb u v (aQ k.isRow d (g.drop b)):=by
 cases x:m.info? h with
 |none=>simp[x]at r
 |some F=>
  have P:F.size=d:=by simpa[x] using r
  cases y:k.isRow with
  |true=>simp_all [mn,bb.aQ]
  |false=>
   obtain rfl:=D y;have G:b<c.size:=by have:=p.1;omega
   exact⟨_,λl=>oH C y c b (c.getD b undef) (by simp[G]) l,bb.xb p b E⟩
def Ja(r:TypeId)(c:Operand)(x:Nat)(z:o.op=.field r c x)(y:Array Field)(C:m.underlying r=β (.struct y))(b:Field)(D:y[x]?=β b)(h:TypeDesc)(E:m.underlying b.type=β h)(k:Nat)
  (F:(m.info? b.type).map (·.size)=β k) (L:h.isRow=θ->k=1) (P:aM c=ζ) (S:bK u a j) (T:Holds u f l) (d:G ⟨m,q⟩ (.pJ h.isRow b.offset k c) j f Y):bN m q o a l u f Y:=by
 have p:=S.ak c P;simp only[G]at d;split at d
 case h_2=>exact d.elim
 rename_i V W;rw[W]at p;generalize e:a.eval c=w at p;cases p with
 |agg A V g i n=>obtain⟨v,s,t⟩:=BA ⟨i,n⟩ g b.type h E k F L b.offset d.1;exact .same T (by simp[execOp,z,e,Instr.field,run_underlying C,D,asAgg,s]) t d.2
theorem Jb(y:TypeId)(c h:Operand)(B:o.op=.index y c h)(z:Nat)(d:TypeId)(H:m.underlying y=β (.array z d))(k:TypeDesc)(F:m.underlying d=β k)(b:Nat)
  (p:(m.info? d).map (·.size)=β b) (L:k.isRow=θ->b=1) (P:aM c=ζ) (S:aM h=ζ) (C:bK u a j) (T:Holds u f l) (r:G ⟨m,q⟩ (.pG k.isRow b z c h) j f Y):bN m q o a l u f Y:=by
 have x:=C.ak c P;have D:=C.ak h S;simp only[G]at r;split at r
 case h_2=>trivial
 rename_i V I W e g;rw[e]at x;rw[g]at D;have K:=D.ds;generalize M:a.eval c=N at x;cases x with
 |agg O V i n s=>
  obtain⟨Q,hm,t,w⟩:=r;obtain⟨v,X,A⟩:=BA ⟨n,s⟩ i d k F b p L (W.toNat*b) t;cases E:m.info? d with
  |none=>simp[E]at p
  |some ii=>
   have Z:ii.size=b:=by simpa[E] using p
   exact .same T (by simp_all [execOp,Instr.index,asIntOf,run_underlying,sizeOf,typeInfo]) A w
def Jc(h:TypeId)(c d:Operand)(C:o.op=.index h c d)(D:m.underlying h=β .string)(E:aM c=ζ)(F:aM d=ζ)(k:bK u a j)(L:Holds u f l)(b:G ⟨m,q⟩ (.mg c d) j f Y):bN m q o a l u f Y:=by
 have p:=k.ak c E;have r:=k.ak d F;simp only[G]at b;split at b
 case h_2=>trivial
 rename_i x n y P S;rw[P]at p;rw[S]at r;have T:=p.ds;have V:=r.ds;obtain⟨W,b⟩:=b;split at b
 case h_2=>trivial
 rename_i e z;have g:x[y.toNat]?=β e:=by have i:=(a9o.1 z).1;rw[getElem?_pos x y.toNat i];have:=(a9o.1 z).2;rw[<-this];rfl
 exact .same L (by simp[execOp,C,T,V,Instr.index,asIntOf,run_underlying D,W,g]) (.v _ rfl) b
theorem Jd(b:Operand)(c:Nat)(k:o.op=.extract b c)(p:aM b=ζ)(r:bK u a j)(x:Holds u f l)(d:G ⟨m,q⟩ (.ext b c) j f Y):bN m q o a l u f Y:=by
 have h:=r.ak b p;simp only[G]at d;split at d
 case h_2=>trivial
 rename_i y z;rw[z]at h;split at d
 case h_2=>trivial
 rename_i C D;generalize E:a.eval b=P at h;cases h with
 |aJ us y S F=>
  have L:c<us.size:=by grind
  have:=F c C D;refine .same x ?_ this d;simp[execOp,k,E,Instr.extract,L]
def Je(L:TypeId)(c:Operand)(x:o.op=.call {callee:=.builtin .len,args:=#[c],argTypes:=#[L]})(T:TypeId)(y:m.underlying L=β (.slice T))
  (V:aM c=ζ) (W:bK u a j) (z:Holds u f l) (h:G ⟨m,q⟩ (.len c) j f Y):bN m q o a l u f Y:=by
 have b:=W.ak c V;simp only[G]at h;split at h
 .rename_i P e k;rw[k]at b;generalize p:a.eval c=C at b;have D:∃E d,C=.slice E (α P) d:=by
   cases b with
   |dn E d=>simp
   |J n S len d r s P e hk D=>subst D;simp
  obtain⟨E,d,rfl⟩:=D;exact .same z (by simp[execOp,x,resolve,invoke,builtin,p,Builtin.len_,run_underlying y,goInt]) (.v _ rfl) h
 .rename_i F S g t r k;rw[k]at b;generalize p:a.eval c=C at b;cases b with
  |bE F S len d r hk i=>exact .same z (by simp[execOp,x,resolve,invoke,builtin,p,Builtin.len_,run_underlying y,goInt]) (.v _ rfl) h
 .rename_i F g d r k;rw[k]at b;generalize p:a.eval c=C at b;cases b with
  |aq F len d r hk i=>exact .same z (by simp[execOp,x,resolve,invoke,builtin,p,Builtin.len_,run_underlying y,goInt]) (.v _ rfl) h
 .trivial
def Jf(d:TypeId)(b:Operand)(k:o.op=.call {callee:=.builtin .len,args:=#[b],argTypes:=#[d]})(p:m.underlying d=β .string)
  (r:aM b=ζ) (x:bK u a j) (y:Holds u f l) (c:G ⟨m,q⟩ (.qU b) j f Y):bN m q o a l u f Y:=by
 have h:=x.ak b r;simp only[G]at c;split at c
 .rename_i D z;rw[z]at h;have C:=h.ds;exact .same y (by simp[execOp,k,resolve,invoke,builtin,C,Builtin.len_,run_underlying p,goInt]) (.v _ rfl) c
 .trivial
theorem Jg(c:BinOp)(x:TypeId)(k p d:Value)(b:br c k p=β d)(r:World):(binOp c x k p).run m r=.ok d r/\d.oneCell'=true:=by
 unfold br at b;split at b
 .rename_i C D E F;split at b
  .rename_i h;unfold oA at b;split at b
   .cases b
   .rename_i y;cases c<;>simp[fB]at h<;>simp only[]at b<;>(obtain rfl:=Β b)<;>simp[binOp,Op.shift,y,Value.oneCell']
  .rename_i h;split at b
   .rename_i z;subst z;cases c<;>simp[fB]at h<;>simp only[hR]at b<;>first
     |(split at b<;>first|(cases b;done)|skip)
     |skip
    all_goals (obtain rfl:=Β b)
    all_goals simp_all [binOp,Op.intArith,Op.intDiv,Op.intBits,Op.intCmp,Value.oneCell']
    all_goals grind
   .cases b
 .unfold qQ at b;cases c<;>simp only[]at b<;>first
   |(cases b;done)
   |(split at b<;>first|(cases b;done)|skip)
   |skip
  all_goals (obtain rfl:=Β b)
  all_goals simp[binOp,Op.stringOp,Value.oneCell']
  omega
 .cases b
def Jh(b:BinOp)(p:TypeId)(r x:Operand)(d h:Value)(c:(br b d h).isSome)(k:World):(eqGuard b p r x d h).run m k=.ok () k:=by
 unfold br at c;split at c<;>first
  |(cases b<;>simp[eqGuard];done)
  |simp at c
theorem xe(h:BinOp)(k:TypeId)(b c:Operand)(y:TypeId)(V:o.op=.binOp h k b c y)(z:aM b=ζ)(C:aM c=ζ)(p:bK u a j)(D:Holds u f l)(d:G ⟨m,q⟩ (.bin h b c) j f Y):bN m q o a l u f Y:=by
 have r:=p.ak b z;have x:=p.ak c C;simp only[G]at d;split at d
 case h_2=>trivial
 rename_i E v F L;rw[F]at r;rw[L]at x;have W:=r.ds;have e:=x.ds;split at d
 case h_2=>trivial
 rename_i P S;obtain⟨g,T⟩:=Jg (m:=m) h k E v P S l;exact .same D (by simp_all [execOp,Jh]) (.v _ T) d
def Ji(c:UnOp)(x:TypeId)(d:Operand)(y:o.op=.unOp c x d)(z:aM d=ζ)(C:bK u a j)(D:Holds u f l)(h:G ⟨m,q⟩ (.un c d) j f Y):bN m q o a l u f Y:=by
 have k:=C.ak d z;simp only[G]at h;split at h
 case h_2=>trivial
 rename_i E F;rw[F]at k;have L:=k.ds;split at h
 case h_2=>trivial
 rename_i p b;have r:(Op.unary c E).run m l=.ok p l/\p.oneCell'=true:=by
  unfold oB at b;split at b
  .cases c<;>simp only[]at b<;>first|(cases b;done)|skip
   obtain rfl:=Β b;trivial
  .cases c<;>simp only[]at b<;>first|(cases b;done)|skip
   all_goals (obtain rfl:=Β b)
   all_goals simp[Op.unary,Op.intArith,Op.intBits,Value.oneCell']
  .cases b
 exact .same D (by simp[execOp,y,L,r.1]) (.v _ r.2) h
def Jj(d h:TypeId)(b:Operand)(r:o.op=.convert d h b)(k x:IntKind)(y:m.underlying d=β (.int x))(z:m.underlying h=β (.int k))(C:aM b=ζ)(D:bK u a j)(E:Holds u f l)(c:G ⟨m,q⟩ (.jb k b) j f Y):bN m q o a l u f Y:=by
 have p:=D.ak b C;simp only[G]at c;split at c
 case h_2=>trivial
 rename_i P S F;rw[F]at p;have L:=p.ds;exact .same E (by simp[execOp,r,L,convert,run_underlying y,run_underlying z,Conv.intToInt]) (.v _ rfl) c
theorem Jk(D:Bool)(b:TypeId)(k p:Operand)(w:TypeId)(l6:o.op=.binOp (if D then .neq else .eql) b k p w)(d:Nat)(c:List c6)(A:flatK m d b=β c)(S:m.cellsOf b=α c)(T:(m.info? b).isSome)(l7:d<=10000)
  (B:(m.underlying b).any (·.isRow)=ζ) (l8:m.eqGuardType m.depth b=θ) (H:aM k=ζ) (I:aM p=ζ) (V:bK u a j) (W:Holds u f l) (E:G ⟨m,q⟩ (.eqv D (mo c) k p) j f Y):bN m q o a l u f Y:=by
 have F:=V.ak k H;have L:=V.ak p I;simp only[G]at E;split at E
 case h_2=>trivial
 rename_i r x K M;rw[K]at F;rw[M]at L;generalize l9:a.eval k=n0 at F;generalize n1:a.eval p=n2 at L;cases F with
 |agg h r n3 N O=>
  cases L with
  |agg us x n4 Q X=>
   obtain⟨Z,k3,e⟩:=E;have g:bw u h r:=⟨N,O⟩;have i:bw u us x:=⟨Q,X⟩;obtain⟨n,k4⟩:=pN _ r h.toList Z (bw.ed.1 g).1 (bw.ed.1 g).2;obtain⟨s,k5⟩:=pN _ x us.toList k3 (bw.ed.1 i).1 (bw.ed.1 i).2;rw[uz]at n s;have k6:h.size=α c:=by have:=oG n;trivial
   have k7:us.size=α c:=by have:=oG s;trivial
   obtain⟨P,t⟩:=a8X.1 T;have v:P.size=α c:=by simpa[Program.cellsOf,t] using S
   obtain⟨y,k8⟩:∃y,m.underlying b=β y:=by
    cases hu:m.underlying b with
    |none=>simp[hu]at B
    |some y=>simp
   have k9:y.isRow=true:=by simp_all
   obtain⟨n5,n9,l0,z,C,l1,l2⟩:=uy d b c A S T (10000 - d) l h us 0 (by grind) (by grind);rw[mn k8 k9 t]at z C;have l3:h.extract 0 (0+P.size)=h:=by rw[a8J,v,<-k6];simp
   have l4:us.extract 0 (0+P.size)=us:=by rw[a8J,v,<-k7];simp
   rw[l3]at z;rw[l4]at C;simp only[Result.ok.injEq,and_true]at z C;subst z;subst C;rw[show 10000 - d+d=10000 by omega]at l1;have l5:l0=peq (.agg r) (.agg x):=by rw[aaG,qR,l2,a9I,a9I,k4,k5];grind[Γ,R.agg.injEq,List.map_inj_right]
   subst l5;cases D
   .refine .same W ?_ (.v _ rfl) (by simpa using e);simp_all [execOp,run_eqGuard_agg,run_eql_struct]
   .refine .same W ?_ (.v _ rfl) (by simpa using e);simp_all [execOp,run_eqGuard_agg,run_neq_struct]
def Jl(r:Bool)(h:TypeId)(k p:Operand)(P:TypeId)(x:o.op=.binOp (if r then .neq else .eql) h k p P)(S:m.underlying h=β .bool)(T:aM k=ζ)(V:aM p=ζ)(y:bK u a j)(z:Holds u f l)
  (b:G ⟨m,q⟩ (.pK r k p) j f Y):bN m q o a l u f Y:=by
 have C:=y.ak k T;have D:=y.ak p V;simp only[G]at b;split at b
 case h_2=>exact b.elim
 rename_i c d W e;rw[W]at C;rw[e]at D;have E:=C.ds;have F:=D.ds;have L:(Op.equalIn 10000 h (.bool c) (.bool d)).run m l=.ok (c==d) l:=run_equalIn_bool' l 9999 h c d S;cases r
 .exact .same z (v:=.bool (c==d)) (by simp[execOp,x,E,F,eqGuard,binOp,Op.equal,Op.maxDepth,L]) (.v _ rfl) (by simpa using b)
 .exact .same z (v:=.bool (!(c==d))) (by simp[execOp,x,E,F,eqGuard,binOp,Op.equal,Op.maxDepth,L]) (.v _ rfl) (by simpa using b)
def Jm(y:Bool)(c:TypeId)(z F:Operand)(e:TypeId)(h:o.op=.binOp (if y then .neq else .eql) c z F e)(P:TypeId)(S:m.underlying c=β (.pointer P))(T:TypeInfo)(w:m.info? P=β T)(A:T.size≠0)(g:aM z=ζ)(i:aM F=ζ)(V:bK u a j)(k:Holds u f l)
  (p:G ⟨m,q⟩ (.qV y z F) j f Y):bN m q o a l u f Y:=by
 have d:=V.ak z g;have r:=V.ak F i;have n:m.pointee c=P:=by simp[Program.pointee,S]
 have s:m.underlying c=β (.pointer (m.pointee c)):=by rw[n];exact S
 have x:∀L:Option Addr,(Op.equalIn 10000 c (.pointer L) (.pointer ε)).run m l=.ok L.isNone l:=λL=>run_equalIn_pointer_nil l 9999 c L s;simp only[G]at p;split at p
 .rename_i B t C D;rw[C]at d;rw[D]at r;have E:=d.iE;have b:=r.ds;cases y
  .exact .same k (by simp[execOp,h,E,b,eqGuard,binOp,Op.equal,Op.maxDepth,x]) (.v _ rfl) p
  .exact .same k (by simp[execOp,h,E,b,eqGuard,binOp,Op.equal,Op.maxDepth,x]) (.v _ rfl) p
 .rename_i v C D;rw[C]at d;rw[D]at r;have b:=r.ds;generalize W:a.eval z=H at d;cases d with
  |bZ I t K v M hH N=>
   cases y
   .exact .same k (by simp[execOp,h,W,b,eqGuard,binOp,Op.equal,Op.maxDepth,x]) (.v _ rfl) p
   .exact .same k (by simp[execOp,h,W,b,eqGuard,binOp,Op.equal,Op.maxDepth,x]) (.v _ rfl) p
 .rename_i C D;rw[C]at d;rw[D]at r;have E:=d.ds;have b:=r.ds;cases y
  .exact .same k (v:=.bool ζ) (by simp[execOp,h,E,b,eqGuard,binOp,Op.equal,Op.maxDepth,x]) (.v _ rfl) (by trivial)
  .exact .same k (v:=.bool θ) (by simp[execOp,h,E,b,eqGuard,binOp,Op.equal,Op.maxDepth,x]) (.v _ rfl) (by trivial)
 .trivial
theorem Jn(b:FuncId)(c:Func)(args:Array Operand)(y:Array TypeId)(z:o.op=.call {callee:=.value (.func b),args,argTypes:=y})(C:m.funcs[b]?=β c)(D:c.body.isSome) (E:c.name≠ "runtime.NumGoroutine")
  (F:∀h∈args.toList,aM h=ζ) (L:bK u a j) (r:Holds u f l) (P:G ⟨m,q⟩ (.fZ b args.toList) j f Y):bN m q o a l u f Y:=by
 intro g i;have S:bw u (args.map a.eval) (args.toList.map (ak j)):=by
  refine bw.ed.2 ⟨acr,λT h V d k=>?_⟩;rw[aaB,a8H]at d;rw[a8H]at k;cases p:args.toList[T]? with
  |none=>simp[p]at d
  |some op=>
   rw[p]at d k;obtain rfl:a.eval op=h:=by simpa using d
   obtain rfl:ak j op=V:=by simpa using k
   exact L.ak op (F op (a8r p))
 have W:=P (args.map a.eval) l u S r;have e:(execOp a.eval o).run m l=.ok (.enter b (args.map a.eval)) l:=by
  cases x:c.body with
  |none=>simp[x]at D
  |some n=>simp[execOp,z,resolve,Act.eval,Deferred.ofValue,invoke,callFunc,C,E,x]
 unfold Oper.wp;rw[e];exact W.mono λs t r=>by
  grind
end
variable{b3:Int}
section
variable{o:Oper}{a:Act}
def valOf(b:Act)(c:Option Operand):Option Value:=c.map b.eval
theorem gg(h:bK u a j){b:Option Operand}(p:b.all aM=ζ)(c:dd j b e=β b3):(b=ε/\b3=e)\/∃d,valOf a b=β (.int d b3):=by
 cases b with
 |none=>left;simp only[dd,a8t]at c;simp_all
 |some b=>
  right;simp only[dd]at c;split at c
  .rename_i d r k;obtain rfl:=Β c;have:=h.ak b (by trivial);rw[k]at this;exact⟨d,by simp[valOf,this.ds]⟩
  .cases c
theorem BB(z:Bool)(d h:Nat)(k p:Option Operand)(c b:Int)(C:(k=ε/\c=0)\/∃r,valOf a k=β (.int r c))(D:(p=ε/\b=d)\/∃r,valOf a p=β (.int r b))
  (E:0<=c) (F:c<=b) (T:b<=d) (V:d<=h) (x:World):(Instr.sliceBounds z d h (valOf a k) (valOf a p) ε).run m x=.ok (c.toNat,b.toNat,h) x:=by
 have W:(b.toNat)=b:=a9Q acq;have G:b<=(h):=acq;have L:0<=b:=acq;have y:valOf a ε=none:=rfl;rcases C with⟨rfl,rfl⟩|⟨e,P⟩<;>rcases D with⟨rfl,rfl⟩|⟨f,S⟩
 .rfl
 .simp only[Instr.sliceBounds,y,S];simp[run_sliceBound,G,L]
 .simp only[Instr.sliceBounds,y,P];simp[run_sliceBound,E,F]
 simp_all [Instr.sliceBounds,run_sliceBound]
theorem Jo(k9:TypeId)(C:Operand)(D g:Option Operand)(n9:o.op=.slice k9 C D g ε)(p:TypeId)(l4:m.underlying k9=β (.slice p))(E:Nat)(K:(m.info? p).map (·.size)=β E)(l5:aM C=ζ)(M:D.all aM=ζ)(N:g.all aM=ζ)
  (P:bK u a j) (O:Holds u f l) (F:G ⟨m,q⟩ (.pH E C D g) j f Y):bN m q o a l u f Y:=by
 have r:=P.ak C l5;have Q:∀(x)(len d:Nat)(c b:Int),((D=ε/\c=0)\/∃X,valOf a D=β (.int X c))->((g=ε/\b=len)\/∃X,valOf a g=β (.int X b))->0<=c->c<=b->b<=len->len<=d->
   a.eval C=.slice x len d->(execOp a.eval o).run m l=.ok (.value (sliced x c.toNat b.toNat d E)) l:=by
  intro x len d c b w S T V L l0 i;have l6:=BB (m:=m) ζ len d D g c b w S T V L l0 l;simp only[valOf]at l6;cases l7:m.info? p with
  |none=>simp[l7]at K
  |some ii=>simp_all [execOp,Instr.sliceAt,Instr.slice,run_underlying,sizeOf,typeInfo,sliced]
 simp only[G]at F;split at F
 .rename_i h l1 y;rw[y]at r;split at F
  case h_2=>trivial
  rename_i c b z W;obtain⟨T,V,L,a00,n⟩:=F;have w:=gg P M z;have S:=gg P N W;generalize i:a.eval C=A at r;have l8:∃x d,A=.slice x (α h) d/\α h<=d:=by
   cases r with
   |dn x d=>simp
   |J Z B len d E k3 h l1 K k4 e=>grind
  obtain⟨x,d,k5,e⟩:=l8;have s:=Q x (α h) d c b (by trivial) S T V L e (by rw[i,k5]);refine .same O s ?_ n;have l9:bb u (sliced x c.toNat b.toNat d E) (.J ((h.take b.toNat).drop c.toNat) .any):=by
   by_cases n0:c.toNat=b.toNat
   .have p:(h.take b.toNat).drop c.toNat=[]:=by rw[List.drop_eq_nil_iff];simp;omega
    rw[p,n0];unfold sliced;rw[aat];refine .dn _ _ _ (λn1=>?_) trivial;split at n1
    .omega
    .cases r with
     |dn a01 l2 a02 c3=>simp_all
     |J Z B len l2 k k3 h l1 K k4 e=>simp_all
   .have l3:h≠[]:=by rintro rfl;simp at L;omega
    obtain⟨Z,B,l2,k,k3,k6,n2,a03,k7,a04,n3,a05,_⟩:=r.xd l3;rw[k5]at k6;simp only[Value.slice.injEq]at k6;obtain⟨rfl,_,rfl⟩:=k6;obtain rfl:k=E:=by
     match h,l3 with
     |gF::h,_=>simp_all
    unfold sliced;rw[if_neg acq,a9q,hr];have n4:∀p∈(h.take b.toNat).drop c.toNat,α p.cells=k:=λp y=>k7 p (a8v (a8O y));have a06:flat ((h.take b.toNat).drop c.toNat)=((flat h).take (b.toNat*k)).drop (c.toNat*k):=by rw[(ga b.toNat k7).2,(ga c.toNat (λp y=>k7 p (a8v y))).1]
    have k4:((h.take b.toNat).drop c.toNat).length=b.toNat - c.toNat:=acs;refine .J Z _ _ _ k (λH=>k3 (c.toNat*k+H)) _ .any n2 k4.symm acq n4 (λa07 l0=>?_) (λH a08=>?_) (λH a09 l4=>?_) trivial;grind
    .rw[abw];refine n3 _ ?_;have:c.toNat*k+H<b.toNat*k:=by
      have p:b.toNat*k=c.toNat*k+(b.toNat - c.toNat)*k:=by rw[<-a9s];congr 1;omega
      omega
     exact a9y this (a8x _ acq)
    grind
  unfold x6;split
  .simp only[dd,a8t]at z W;subst z;subst W;have:(h.take ((α h:Int)).toNat).drop ((0:Nat):Int).toNat=h:=acr;rw[this];have n5:sliced x ((0:Nat):Int).toNat ((α h):Int).toNat d E=A:=by rw[k5];unfold sliced;simp_all [Addr.add]
   rw[n5];exact r
  .exact l9
 .rename_i t B v d k y;rw[y]at r;split at F
  case h_2=>trivial
  rename_i c b z W;obtain⟨rfl,T,V,L,k8,n⟩:=F;have w:=gg P M z;have S:=gg P N W;generalize i:a.eval C=A at r;cases r with
  |bE t B v d E I e=>have s:=Q _ v d c b (by trivial) S T V L e i;refine .same O s ?_ n;unfold sliced;rw[if_neg acq,a9q,hr];exact .bE _ _ _ _ _ I acq
 .rename_i t v d k y;rw[y]at r;split at F
  case h_2=>trivial
  rename_i c b z W;obtain⟨rfl,T,V,L,k8,n⟩:=F;have w:=gg P M z;have S:=gg P N W;generalize i:a.eval C=A at r;cases r with
  |aq t v d k I e=>
   have s:=Q _ v d c b (by trivial) S T V L e i;refine .same O s ?_ n;cases D with
   |none=>
    simp only[dd,a8t]at z;subst z;simp only[aa5,qZ,a9m,if_false];have:sliced (β ⟨t,0,ε⟩) ((0:Nat):Int).toNat b.toNat d k=.slice (β ⟨t,0,ε⟩) b.toNat d:=by unfold sliced;simp[Addr.add]
    rw[this];exact .aq _ _ _ _ I acq
   |some D=>simp only[aau,qZ,if_true];have k8:=k8 rfl;unfold sliced;rw[if_neg acq,a9q,hr,a8J];exact .bE _ _ _ _ _ I acq
 .trivial
theorem xf(z:0<e)(h:i*e<=α g)(C:∀k∈g,k.one=ζ):(∀b∈eo e i g,α b.cells=e)/\flat (eo e i g)=g.take (i*e)/\(eo e i g).length=i:=by
 unfold eo;split
 .rename_i p;subst p;rw[a8Y]at h|-;have D:∀b:R,b.one=ζ->b.cells=[b]:=λb d=>by cases b<;>first|rfl|(simp[R.one]at d)
  refine⟨λb d=>by grind,?_,acs⟩;have:∀c:Ψ,(∀b∈c,b.one=ζ)->flat c=c:=by
   intro c
   induction c with
   |nil=>intro _;rfl
   |cons E c ih=>grind[flat,List.mem_cons_self,List.mem_cons_of_mem]
  grind
 .refine⟨λb d=>?_,?_,acr⟩
  .obtain⟨r,x,rfl⟩:=a8D.1 d;have y:=a9C.1 x;have:(r+1)*e<=i*e:=a8x _ y;grind[R.cells,List.length_take,List.length_drop,Nat.add_mul]
  .clear h
   induction i with
   |zero=>simp[flat]
   |succ i ih=>rw[abS,a9i];simp only[flat,a9a,a8C,a9z,a8I,aaR,a9p,R.cells]at ih|-;rw[ih,a9s,aaW,List.take_add]
theorem BC(b:f e=β (.ro g)):f.set e (.ro g)=f:=by grind[U.aj,U.an]
def Step.Jp(d:Holds u f l)(b:f.read e=β g):∃k,Step u f l k (f.set e (.ro g)) l:=by
 unfold U.read at b;split at b
 .rename_i h c;obtain rfl:=Β b;exact Step.freeze d c
 .rename_i h c;obtain rfl:=Β b;rw[BC c];exact⟨u,.refl d⟩
 .rename_i T h c;obtain rfl:=Β b;exact Step.x2 d (.inr (.inl ⟨T,c⟩))
 .rename_i h c;obtain rfl:=Β b;exact Step.x2 d (.inr (.inr c))
 .cases b
theorem BD(V:TypeId)(x:Operand)(y z:Option Operand)(l3:o.op=.slice V x y z ε)(h:Nat)(r:TypeId)(p:m.underlying V=β (.array h r))(b:Nat)(w:(m.info? r).map (·.size)=β b)(F:0<b)(W:Bool)(A:aM x=ζ)(B:y.all aM=ζ)
  (H:z.all aM=ζ) (L:bK u a j) (P:Holds u f l) (c:G ⟨m,q⟩ (.ku b h x y z W) j f Y):bN m q o a l u f Y:=by
 have e:=L.ak x A;simp only[G]at c;split at c
 case h_2=>trivial
 rename_i C D I;rw[I]at e;split at c
 case h_2=>trivial
 rename_i d k K M;obtain⟨N,O,Q,c⟩:=c;split at c
 case h_2=>trivial
 rename_i X g;obtain⟨l4,c⟩:=c;have l5:=e.iE;have Z:=BB (m:=m) θ h h y z d k (by simpa using gg L B K) (gg L H M) N O Q (a8P _) l;simp only[valOf]at Z;obtain⟨k3,l6,T,l7,l8,l9⟩:=P.read g;have i:(execOp a.eval o).run m l=.ok (.value (.slice (β (if h=d.toNat then⟨C,D,ε⟩else⟨C,D+d.toNat*b,ε⟩)) (k.toNat - d.toNat) (h - d.toNat))) l:=by
  cases k4:m.info? r with
  |none=>simp[k4]at w
  |some ii=>simp_all [execOp,Instr.sliceAt,run_underlying,Instr.sureAddr,sizeOf,typeInfo,hr]
 cases W with
 |true=>
  simp only[if_true]at c;obtain⟨n0,n⟩:=Step.Jp P g;refine .value i n ?_ c;obtain⟨_,k5,n1,_,n2,s,k6⟩:=n.holds.cx C _ (U.aj _ _ _);have n3:k.toNat*b<=h*b:=a8x _ acq;have n4:(k.toNat - d.toNat)*b+d.toNat*b=k.toNat*b:=by rw[<-a9s];congr 1;omega
  have k7:∀E∈X.drop (D+d.toNat*b),E.one=true:=λE t=>k3 E (a8O t);obtain⟨k8,k9,v⟩:=xf (i:=k.toNat - d.toNat) F acs k7;by_cases l0:d.toNat=k.toNat
  .have r:=a8q (by rw[v];omega);rw[r,l0,aat];exact .dn _ _ _ (λl1=>by simp at l1) trivial
  .rw[if_neg acq];refine .J C _ _ _ b (λS=>k5.getD (D+d.toNat*b+S) undef) _ .any F v.symm acq k8 (λE t=>?_) (λS n5=>?_) (λS l2 p=>?_) trivial;grind
   .refine k6 _ ?_;have:=s.1;omega
   .rw[k9,List.getElem?_take]at p;split at p
    .rw[ab0]at p;exact s.2 _ l2 p
    .cases p
 |false=>simp only[a9m,if_false]at c;refine .same P i ?_ c.2;rw[if_neg acq];exact .bE _ _ _ _ _ F acq
theorem BE(h:List Value):∀(b c:Nat)(d:Array Value),c+b+α h<=d.size->
  (h.zipIdx b).foldl (λ(r:Array Value) (k:Value×Nat)=>r.setIfInBounds (c+k.2) k.1) d=dh d (c+b) h:=by
 induction h with
 |nil=>intro b c d p;apply ac6;simp[dh]
 |cons y h ih=>
  intro b c d p;simp only[a8m]at p;rw[List.zipIdx_cons,a9e,ih (b+1) c _ acs];apply ac6;simp only[dh,Array.toList_setIfInBounds,a8m];have x:c+b<α d.toList:=acs;rw[a9t,if_pos x];have z:(d.toList.take (c+b)).length=c+b:=by simp only[a8l];omega
  rw[show c+(b+1)=(d.toList.take (c+b)).length+1 by omega,aaO];rw[show(d.toList.take (c+b)).length+1+α h=(d.toList.take (c+b)).length+(α h+1) by omega,aaP];grind[List.append_assoc,List.drop_drop]
theorem BG(F:Nat->Option (Nat×Nat))(C:bk):∀(r:List (Nat×Operand))(res:List (Nat×Nat×Operand))(b:Array Value)(c:Ψ)(x:Ψ->Prop),
  α r=α res->(∀(p:Nat)(d:Nat×Operand)(h:Nat×Nat×Operand),r[p]?=β d->res[p]?=β h->F d.1=β (h.1,h.2.1)/\d.2=h.2.2/\aM d.2=ζ/\0<h.2.1)->bK C a j->bw C b c->(∀y∈c,y.one=ζ)->kC j c res x->
  ∃D z,Instr.fill F b (r.map λd=>(d.1,a.eval d.2))=β D/\bw C D z/\(∀y∈z,y.one=ζ)/\x z
 |[],[],b,c,x,_,_,_,E,G,L=>⟨b,c,rfl,E,G,L⟩
 |(t,k)::r,(off,ch,u)::res,b,c,x,f,P,S,E,G,L=>by
  obtain⟨T,V,W,g⟩:=P 0 _ _ rfl rfl;simp only at T V W g;subst V;obtain⟨i,v,l⟩:=L;obtain⟨e,c2⟩:=(S.ak k W).cells acq;have w:(a.eval k).cells.size=ch:=by rw[e.1,i]
  obtain⟨D,z,m,n,q,s⟩:=BG F C r res (dh b off (a.eval k).cells.toList) (putAt c off (ak j k).cells) x (by simpa using f) (λp d h A B=>P (p+1) d h (by trivial) (by trivial)) S
   (E.putAt e off acq) (ur G c2 off) l
  refine⟨D,z,?_,n,q,s⟩;simp only[a8C,Instr.fill,T];have H:off+(a.eval k).cells.size<=b.size:=by have:=E.1;omega
  rw[if_neg acs];rw[show(a.eval k).cells.zipIdx.foldl (λc (y,p)=>c.setIfInBounds (off+p) y) b=dh b off (a.eval k).cells.toList by
   rw[<-Array.foldl_toList,ace];simp_all [BE]]
  exact m
def Jq(k:TypeId)(c:Array (Nat×Operand))(D:o.op=.build k c)(x:Nat->Option (Nat×Nat))(b:Array Value)(p:List (Nat×Nat×Operand))
  (E:∀y:List (Nat×Value),m.built k y=Instr.fill x b y) (F:∀d∈b.toList,d.oneCell'=ζ) (L:α c.toList=α p)
  (P:∀(z:Nat)(r:Nat×Operand)(h:Nat×Nat×Operand),c.toList[z]?=β r->p[z]?=β h->x r.1=β (h.1,h.2.1)/\r.2=h.2.2/\aM r.2=ζ/\0<h.2.1)
  (S:bK u a j) (T:Holds u f l) (V:G ⟨m,q⟩ (.mh (b.toList.map cV) p) j f Y):bN m q o a l u f Y:=by
 obtain⟨W,w,e,C,g,i⟩:=BG x u c.toList p b (b.toList.map cV) (λn=>Y (.agg n) f) L P S (bw.pE u b F) (λA s=>by obtain⟨d,_,rfl⟩:=a8D.1 s;exact oz d) V;have t:m.built k (c.map λ(v,d)=>(v,a.eval d)).toList=β W:=by rw[E,aaB];exact e
 exact .same T (by simp only[execOp,D,Sem.run_bind,run_build l k _ _ t];rfl) (.agg _ _ g C.1 C.2) i
theorem xg{b:Nat}(T:0<b):∀(p:List Operand)(c:Nat)(k:Array Value)(d:Ψ),(∀h∈p,aM h=ζ)->bK u a j->bw u k d->(∀r∈d,r.one=ζ)->(∀C∈p.map (ak j),α C.cells=b)->α d=(c+α p)*b->
  ∃y x,Instr.fill (λc=>β (c*b,b)) k ((p.zipIdx c).map λE=>(E.2,a.eval E.1))=β y/\bw u y x/\(∀r∈x,r.one=ζ)/\x=d.take (c*b)++flat (p.map (ak j))
 |[],c,k,d,_,_,z,D,_,hlen=>⟨k,d,rfl,z,D,by simp[flat];grind⟩
 |h::p,c,k,d,F,G,z,D,L,hlen=>by
  have V:(ak j h).cells.length=b:=L _ acr;obtain⟨P,c2⟩:=(G.ak h (F h acr)).cells acq;have n:(a.eval h).cells.size=b:=by rw[P.1,V]
  simp only[a8m]at hlen;have q:c*b+b<=α d:=by grind
  obtain⟨y,x,W,e,f,g⟩:=xg T p (c+1) (dh k (c*b) (a.eval h).cells.toList) (putAt d (c*b) (ak j h).cells) (λi l=>F i (by simp[l])) G (z.putAt P _ acq) (ur D c2 _)
   (λC S=>L C (by simp at S|-;exact .inr S)) (by grind[eF])
  refine⟨y,x,?_,e,f,?_⟩
  .simp only[List.zipIdx_cons,a8C,Instr.fill];have s:c*b+(a.eval h).cells.size<=k.size:=by have:=z.1;omega
   rw[if_neg acs];rw[show(a.eval h).cells.zipIdx.foldl (λd (r,m)=>d.setIfInBounds (c*b+m) r) k=dh k (c*b) (a.eval h).cells.toList by
    rw[<-Array.foldl_toList,ace];simp_all [BE]]
   exact W
  .rw[g];simp only[putAt,flat,a8C,a8I];have t:(d.take (c*b)++(ak j h).cells).length=(c+1)*b:=by rw[a9s];simp;omega
   grind
def BH(C:TypeId)(c:Nat)(D:Array (Nat×Value))(h:TypeId)(G:m.underlying C=β (.slice h))(b:TypeInfo)(E:m.info? h=β b)(r:Value)(L:b.zero=β r)(V:c*b.size<=2^24)(x:Array Value)(p:x=if c*b.size=0 then #[]else r.cells)
  (F:Array Value) (y:Instr.fill (λz=>β (z*b.size,b.size)) ((Array.range (c*b.size)).map (λz=>x[z%x.size]!)) D.toList=β F) (d:World):
  (Instr.buildSlice C c D).run m d=.ok (.slice (β ⟨d.heap.size,0,ε⟩) c c) (d.alloc (.cells F h)):=by
 have P:¬(c*b.size>2^24):=acq;have S:(sizeOf h).run m d=.ok b.size d:=by simp[sizeOf,typeInfo,E]
 have T:(zeroValue h).run m d=.ok r d:=by simp[zeroValue,typeInfo,E,L]
 unfold Instr.buildSlice;simp only[Sem.run_bind,run_underlying G,Result.andThen_ok,S];rw[if_neg P];by_cases k:c*b.size=0
 .rw[if_pos k]at p;subst p;simp only[k,if_true];rw[k]at y;rw[Sem.run_bind];simp only[Sem.run_pure,Result.andThen_ok,y];rfl
 .rw[if_neg k]at p;subst p;simp only[k,if_false];rw[Sem.run_bind];simp only[T,Result.andThen_ok];rw[Sem.run_bind];simp only[Sem.run_pure,Result.andThen_ok,y];rfl
theorem BI(g:TypeId)(c:Nat)(S:Array (Nat×Operand))(r:o.op=.buildSlice g c S)(x:TypeId)(i:m.underlying g=β (.slice x))(b:TypeInfo)(M:m.info? x=β b)(D:Value)(N:b.zero=β D)(l1:D.cells.size=b.size)(l2:∀d∈D.cells.toList,d.oneCell'=ζ)
  (T:0<b.size) (O:c*b.size<=2^24) (k:List Operand) (l3:S.toList=(k.zipIdx 0).map λF=>(F.2,F.1)) (E:α k=c) (Q:∀d∈k,aM d=ζ)
  (X:bK u a j) (z:Holds u f l) (C:G ⟨m,q⟩ (.kt b.size k) j f Y):bN m q o a l u f Y:=by
 simp only[G]at C;obtain⟨n,C⟩:=C
 let eX:Array Value:=if c*b.size=0 then #[]else D.cells
 let y:Array Value:=(Array.range (c*b.size)).map (λh=>eX[h%eX.size]!);have Z:∀d∈y.toList,d.oneCell'=true:=by
  intro d s;by_cases L:c*b.size=0
  .simp[y,L]at s
  .have l4:eX=D.cells:=if_neg L;simp only[y,aaB,a8D]at s;obtain⟨h,_,rfl⟩:=s;grind[Nat.mod_lt]
 have k3:y.size=c*b.size:=by simp[y]
 obtain⟨p,l5,k4,B,k5,V⟩:=xg T k 0 y (y.toList.map cV) Q X (bw.pE u y Z) (λH t=>by obtain⟨d,_,rfl⟩:=a8D.1 t;exact oz d) n (by simp[k3,E]);simp only[abk,a9Y,a8y]at V;have k6:(S.map λ(h,d)=>(h,a.eval d)).toList=(k.zipIdx 0).map λF=>(F.2,a.eval F.1):=by simp_all
 have I:(execOp a.eval o).run m l=.ok (.value (.slice (β ⟨l.heap.size,0,ε⟩) c c)) (l.alloc (.cells p x)):=by have:=BH g c (S.map λ(h,d)=>(h,a.eval d)) x i b M D N O eX rfl p (by rw[k6];exact k4) l;simp only[execOp,r,Sem.run_bind,this];rfl
 by_cases L:α k=0
 .rw[if_pos L]at C;have k7:c=0:=acq;subst k7;refine .value I (b:=u.ext l.heap.size 0 p) ?_ (.dn _ _ .zero (λl6=>by rfl) rfl) C;have W:=Step.write (j3:=l.alloc (.cells p x)) z l.heap.size 0 p x f rfl rfl rfl acr (heap_alloc_new l _) (λw _ A=>qN l _ w A) (.inl rfl)
   (a8M _) (λo v P=>by rw[z.ng]at P;cases P) (λk8 o K e=>e)
   (λo r=>by rw[z.eh]at r;cases r)
  exact W
 .rw[if_neg L]at C;have k9:p.size=c*b.size:=by rw[B.1,V,cW n];simp[E]
  have W:=Step.write (j3:=l.alloc (.cells p x)) z l.heap.size (c*b.size) p x (f.set l.heap.size (.buf b.size (α k) (α k))) rfl rfl rfl acr (heap_alloc_new l _) (λw _ A=>qN l _ w A) (.inl rfl)
   acq (λo v P=>by rw[z.ng]at P;cases P) (λk8 o K e=>by rw[U.an _ _ K]at e;exact e)
   (λo r=>by
    rw[U.aj]at r;obtain rfl:=Β r;refine⟨T,a8P _,?_,p,x,heap_alloc_new l _,by rw[k9,E],λo r=>?_⟩
    .have:α k*1<=c*b.size:=by rw[E];exact acf _ T
     unfold maxLen;omega
    .rw[bk.pD _ _ _ _ (by rw[E]at r;omega)];exact z.ng o)
  refine .value I W ?_ (C _ z.eh);refine .J _ _ _ _ b.size (λh=>p.getD h undef) _ _ T (by simp[E]) acq n (λH t=>k5 H (by rw[V];exact t)) (λh l7=>?_) (λh l0 i=>?_) ⟨rfl,rfl,acq⟩;simp_all [bk.pC]
  .exact((B.2 h l0 (by rw[V];exact i))).mono W.le
theorem Jr(E:TypeId)(d:Nat)(z:Array (Nat×Operand))(V:o.op=.buildSlice E d z)(r:TypeId)(W:m.underlying E=β (.slice r))(b:TypeInfo)(e:m.info? r=β b)(p:Value)(g:b.zero=β p)(w:p.cells.size=b.size)(A:∀c∈p.cells.toList,c.oneCell'=ζ)
  (F:0<b.size) (i:d*b.size<=2^24) (h:List Operand) (B:z.toList=(h.zipIdx 0).map λC=>(C.2,C.1)) (L:α h=d) (n:∀c∈h,aM c=ζ)
  (s:bK u a j) (P:Holds u f l) (x:G ⟨m,q⟩ (.ky b.size h) j f Y):bN m q o a l u f Y:=by
 simp only[G]at x;obtain⟨H,x⟩:=x;by_cases D:α h=0
 .rw[if_pos D]at x;refine BI E d z V r W b e p g w A F i h B L n s P ?_;simp_all [G]
 rw[if_neg D]at x
 let eX:Array Value:=if d*b.size=0 then #[]else p.cells
 let k:Array Value:=(Array.range (d*b.size)).map (λy=>eX[y%eX.size]!);have I:∀c∈k.toList,c.oneCell'=true:=by
  intro c S;by_cases D:d*b.size=0
  .simp[k,D]at S
  .have Z:eX=p.cells:=if_neg D;simp only[k,aaB,a8D]at S;obtain⟨y,_,rfl⟩:=S;grind[Nat.mod_lt]
 have K:k.size=d*b.size:=by simp[k]
 obtain⟨T,k3,M,N,k4,t⟩:=xg F h 0 k (k.toList.map cV) n s (bw.pE u k I) (λO v=>by obtain⟨c,_,rfl⟩:=a8D.1 v;exact oz c) H (by simp[K,L]);simp only[abk,a9Y,a8y]at t;have Q:(z.map λ(y,c)=>(y,a.eval c)).toList=(h.zipIdx 0).map λC=>(C.2,a.eval C.1):=by simp_all
 have X:(execOp a.eval o).run m l=.ok (.value (.slice (β ⟨l.heap.size,0,ε⟩) d d)) (l.alloc (.cells T r)):=by have:=BH E d (z.map λ(y,c)=>(y,a.eval c)) r W b e p g i eX rfl T (by rw[Q];exact M) l;simp only[execOp,V,Sem.run_bind,this];rfl
 subst L;refine .value X (Step.new P T r _ (λO v=>?_) ?_) (.aq _ _ _ _ F (a8P _)) (x _ P.eh)
 .simp_all
 .rw[<-t];exact N
end
section
variable{o:Oper}{a:Act}
theorem bb.src(T:bb u e6 (.J g M))(V:Holds u f l)(D:∀W∈g,α W.cells=e)(E:Program):
  ∃x:List Value,Src E l e (α g) e6 x/\α x=(flat g).length/\(∀b c,(flat g)[b]?=β c->bb u (x.getD b Go.undef) c)/\(∀y∈flat g,y.one=ζ):=by
 cases T with
 |dn d cap M c3 i=>
  refine⟨[],⟨rfl,?_,?_,acr⟩,rfl,λb c F=>by trivial,λy p=>by trivial⟩
  .cases d<;>simp[Builtin.firstCells,loadCells,loadCellsFrom]
  .cases d<;>simp[Builtin.firstCells,loadCells,loadCellsFrom]
 |J G off len cap h z xs M hk C s j m hH t i=>
  subst C;cases r:g with
  |nil=>subst r;refine⟨[],⟨rfl,?_,?_,acr⟩,rfl,λb c F=>by trivial,λy p=>by trivial⟩<;>simp[Builtin.firstCells,loadCells,loadCellsFrom]
  |cons L w=>
   rw[<-r];have n:=(j L (by simp[r])).symm.trans (D L (by simp[r]));subst n;have C:=cW D;have p:∀(k),(∀d,k.cell? d=l.cell? d)->(Builtin.firstCells h (α g) (.slice (β ⟨G,off,ε⟩) (α g) cap)).run E k=.ok ((χ (α g*h)).map z).toArray k:=λk q=>by
    refine run_firstCells_some k h (α g) ⟨G,off,ε⟩ (α g) cap _ acr (λb v P=>?_);have S:b<α g*h:=by grind
    rw[a8H,aao S]at P;obtain rfl:z b=v:=by simpa using P
    rw[q,hr];exact V.ro _ _ _ (hH b S)
   refine⟨(χ (α g*h)).map z,⟨rfl,p l (λ_=>rfl),p l.drew (λ_=>rfl),acr⟩,by simp[C],λb c F=>?_,m⟩;grind
theorem pO(b c:Ψ):flat (b++c)=flat b++flat c:=by simp[flat]
def jd(b c:Operand)(d h:TypeId)(k:o.op=.call {callee:=.builtin .append,args:=#[b,c],argTypes:=#[d,h]}){v:Value}
  (p:(Builtin.append_ #[d,h] o.type #[a.eval b,a.eval c]).run m l=.ok v j3):(execOp a.eval o).run m l=.ok (.value v) j3:=by
 simp[execOp,k,resolve,invoke,builtin,p]
theorem Js(n S:Operand)(r:TypeId)(p:o.op=.call {callee:=.builtin .append,args:=#[n,S],argTypes:=#[r,r]})(k:TypeId)(x:m.underlying r=β (.slice k))(b:TypeInfo)(O:m.info? k=β b)(H:Value)(l7:b.zero=β H)
  (a19:H.cells.size=b.size) (Q:0<b.size) (a27:aM n=ζ) (a29:aM S=ζ) (a03:bK u a j) (V:Holds u f l) (y:G ⟨m,q⟩ (.app b.size b.bytes n S) j f Y):bN m q o a l u f Y:=by
 have g:=a03.ak n a27;have a04:=a03.ak S a29;simp only[G]at y;split at y
 case h_2=>trivial
 rename_i d I h a69 K a30;rw[K]at g;rw[a30]at a04;obtain⟨a05,l8,a34,l2,y⟩:=y;obtain⟨z,s,a71,a36,a38⟩:=a04.src V l8 m;have a42:∀F∈z,F.oneCell'=true:=λF x=>by
  obtain⟨c,L⟩:=aaQ x;have a06:c<(flat h).length:=by grind
  have:=a36 c _ (Μ a06);rw[a9c,L]at this;exact this.ov (a38 _ (a8L a06))
 have l9:=s.size;generalize X:a.eval n=a07 at g;have newRow:∀(k4:List Value)(W C:Nat)(t:Ψ),α t=W->α k4=W*b.size->(∀k∈t,α k.cells=b.size)->(∀c F,(flat t)[c]?=β F->bb u (k4.getD c undef) F)->(∀E∈flat t,E.one=ζ)->
   W+α h<=C->C<=maxLen->∀l3:U,l3.sub f->
   let i:=k4.toArray++z.toArray++Builtin.zeroCells H.cells (C -(W+α h))
   ∃k5,Step u f l k5 (l3.set l.heap.size (.buf b.size (W+α h) C)) (l.drew.alloc (.cells i k))/\bb k5 (.slice (β ⟨l.heap.size,0,ε⟩) (W+α h) C) (.J (t++h) (.buf l.heap.size C)):=by
  intro k4 W C t n0 k6 a08 a73 a09 Z a43 l3 a47 i;have n1:i.size=C*b.size:=by simp only[i,Array.size_append,List.size_toArray,size_zeroCells,a19,k6,l9,<-a9s];congr 1;omega
  have l4:i.toList=k4++z++(Builtin.zeroCells H.cells (C -(W+α h))).toList:=by simp[i]
  have l5:(flat (t++h)).length=(W+α h)*b.size:=by rw[cW (d:=b.size)];(simp[n0]);grind
  have a48:∀c F,(flat (t++h))[c]?=β F->bb u (i.getD c undef) F:=λc F x=>by
   rw[pO]at x;have a10:(flat t).length=W*b.size:=by rw[cW a08,n0]
   rw[a9g,<-a9S,l4];grind
  have a74:(W+α h)*b.size<=C*b.size:=a8x _ Z;have a52:=V.drew;have e:=Step.write (j3:=l.drew.alloc (.cells i k)) a52 l.heap.size ((W+α h)*b.size) i k (l3.set l.heap.size (.buf b.size (W+α h) C)) rfl rfl rfl acr (heap_alloc_new l.drew _) (λk3 _ n2=>qN l.drew _ k3 n2) (.inl rfl)
   acq (λo v g=>by rw[V.ng]at g;cases g) (λn3 o k7 k8=>by rw[U.an _ _ k7]at k8;exact a47 n3 o k8)
   (λo p=>by
    rw[U.aj]at p;obtain rfl:=Β p;refine⟨Q,Z,a43,i,k,heap_alloc_new l.drew _,n1,λo p=>?_⟩;rw[bk.pD _ _ _ _ acq];exact V.ng o)
  refine⟨_,(Step.drew V).trans e,?_⟩;refine .J _ _ _ _ b.size (λc=>i.getD c undef) _ _ Q (by simp[n0]) Z (λk K=>by grind) (λE n4=>by
   grind[pO]) (λc L=>?_) (λc F x=>(a48 c F x).mono e.le) ⟨rfl,rfl,rfl⟩
  rw[a8J,bk.pC _ _ _ _ L];simp[show c<i.size by omega]
 cases I with
 |any=>trivial
 |nil=>
  obtain⟨rfl,y⟩:=y;have n5:a07=.slice ε 0 0:=by
   cases g with
   |dn w C I c3 p=>simp only[Own.me]at p;subst p;rw[c3 rfl]
   |J k3 off len C n9 A d I Q l5 Z l8 a56 hH a11 p=>trivial
  subst n5;by_cases M:h=[]
  .subst M;rw[if_pos rfl]at y;have a13:=a8q (by trivial);refine .same V (jd n S r r p ?_) (.dn _ _ .nil (λ_=>rfl) rfl) y;rw[X];have k9:=s.len;have l0:=s.cells;simp only[a8s]at k9 l0;simp[Builtin.append_,run_underlying x,sizeOf,typeInfo,O,k9,l0]
  .rw[if_neg M]at y;have a57:=a9h.2 M;have B:=qP l r r o.type k b H x _ x (.inl ⟨k,rfl⟩) O l7 ε 0 0 [] acr acx (α h) (a.eval S) z s acq (by simp only[a8s]at l2;omega) (by trivial);simp only[a8J]at B;have a00:=grownCap_ge l (α h) 0 k;have l1:=grownCap_le_maxLen l (α h) 0 k (by unfold maxLen;simp only[a8s]at l2;omega);obtain⟨k5,e,N⟩:=newRow [] 0 (grownCap l (α h) 0 k) [] rfl acr (λk K=>by simp at K) (λc F x=>by trivial) (λE n4=>by trivial) acq l1 f (λ_ _ a01=>a01);simp only[a8J,a8y]at e N;refine .value (jd n S r r p (by rw[X];exact B)) e N (y _ _ V.eh)
 |zero=>
  obtain⟨rfl,y⟩:=y;have n5:∃w,a07=.slice w 0 0:=by
   cases g with
   |dn w C I c3 p=>simp only[Own.me]at p;subst p;simp
   |J k3 off len C n9 A d I Q l5 Z l8 a56 hH a11 p=>trivial
  obtain⟨w,rfl⟩:=n5;by_cases M:h=[]
  .subst M;rw[if_pos rfl]at y;have a13:=a8q (by trivial);refine .same V (jd n S r r p (v:=.slice w 0 0) ?_) (.dn _ _ .zero (λ_=>rfl) rfl) y;rw[X];have k9:=s.len;have l0:=s.cells;simp only[a8s]at k9 l0;subst a13;cases w<;>simp[Builtin.append_,run_underlying x,sizeOf,typeInfo,O,k9,l0,storeCells]
  .rw[if_neg M]at y;have a57:=a9h.2 M;have B:=qP l r r o.type k b H x _ x (.inl ⟨k,rfl⟩) O l7 w 0 0 [] acr (by cases w<;>simp[Builtin.firstCells,loadCells,loadCellsFrom]) (α h) (a.eval S) z s acq (by simp only[a8s]at l2;omega) (by trivial);simp only[a8J]at B;have a00:=grownCap_ge l (α h) 0 k;have l1:=grownCap_le_maxLen l (α h) 0 k (by unfold maxLen;simp only[a8s]at l2;omega);obtain⟨k5,e,N⟩:=newRow [] 0 (grownCap l (α h) 0 k) [] rfl acr (λk K=>by simp at K) (λc F x=>by trivial) (λE n4=>by trivial) acq l1 f (λ_ _ a01=>a01);simp only[a8J,a8y]at e N;refine .value (jd n S r r p (by rw[X];exact B)) e N (y _ _ V.eh)
 |buf P E=>
  obtain⟨a14,y⟩:=y;obtain⟨_,a81,a61,D,T,a02,a15,a83⟩:=V.cx P _ a14;cases g with
  |dn w C I c3 p=>trivial
  |J k3 off len C n9 A d I a84 l5 Z a08 a09 hH a11 p=>
   obtain⟨rfl,rfl,rfl⟩:=p;subst l5;have a86:α d*n9=α d*b.size:=by
    cases a88:d with
    |nil=>simp
    |cons gF a89=>simp_all
   have a16:∀c,c<α d*b.size->u P c=β (A c):=λc L=>by
    simp_all
   have a62:∀c,c<α d*b.size->D[c]?=β (A c):=λc L=>by
    have:=V.ro _ _ _ (a16 c L);grind[cell_of_row]
   have a90:α d*b.size<=D.size:=by rw[a15];grind
   by_cases l6:α d+α h<=E
   .
    have a18:α d*b.size+α z<=D.size:=by rw[l9,a15,<-a9s];exact a8x _ l6
    have B:=Bu l r r o.type k b x _ x (.inl ⟨k,rfl⟩) O P (α d) E D T _ a02 (x4 _) (α h) (a.eval S) z s a42 l6 a18;have n1:(dh D (α d*b.size) z).size=D.size:=by simp[dh];omega
    have l4:(dh D (α d*b.size) z).toList=D.toList.take (α d*b.size)++z++D.toList.drop (α d*b.size+α z):=by rfl
    have a92:∀c,c<α d*b.size->(dh D (α d*b.size) z)[c]?=β (A c):=λc L=>by
     rw[<-a9S,l4,a8w,aa1 acs,a9j L,a9S];exact a62 c L
    have a10:=cW a05;have e:=Step.write (j3:=l.setRow P (dh D (α d*b.size) z)) V P ((α d+α h)*b.size) (dh D (α d*b.size) z) T ((f.del P).set P (.buf b.size (α d+α h) E)) rfl rfl rfl acr (setRow_heap l P D _ T _ a02)
     (λk3 _ n2=>setRow_other l P k3 _ n2) (.inr (by simp[a14])) (by rw[n1,a9s,<-l9];exact a18)
     (λo v g=>by
      grind)
     (λn3 o k7 k8=>by rw[U.an _ _ k7,U.eO _ k7]at k8;exact k8)
     (λo p=>by
      rw[U.aj]at p;obtain rfl:=Β p;refine⟨Q,l6,a61,_,T,setRow_heap l P D _ T _ a02,acq,λo p=>?_⟩;grind[bk.pD,Nat.le_trans,Nat.mul_le_mul_right])
    refine .value (jd n S r r p (by rw[X];exact B)) e ?_ (y P E (.inl rfl));refine .J _ _ _ _ b.size (λc=>(dh D (α d*b.size) z).getD c undef) _ _ Q acr l6 (λk K=>by grind) (λE n4=>by
     grind[pO]) (λc L=>?_) (λc F x=>?_) ⟨rfl,rfl,rfl⟩
    .rw[a8J,bk.pC _ _ _ _ L];have:c<(dh D (α d*b.size) z).size:=by grind
     simp[this]
    .refine bb.mono e.le ?_;rw[pO]at x;by_cases L:c<α d*b.size
     .rw[aa1 acq]at x;simp_all
     .rw[aaT acq,a10]at x;have a63:c - α d*b.size<α z:=by grind
      have a65:(D.toList.take (α d*b.size)).length=α d*b.size:=acs;rw[a9g,<-a9S,l4,a8w,aaT acq,a65,aa1 a63];grind
   .
    have k6:((χ (α d*b.size)).map A).length=α d*b.size:=acr;have a68:(Builtin.firstCells b.size (α d) (.slice (β ⟨P,0,ε⟩) (α d) E)).run m l.drew=.ok ((χ (α d*b.size)).map A).toArray l.drew:=by
     refine run_firstCells_some l.drew b.size (α d) ⟨P,0,ε⟩ (α d) E _ k6 (λc v g=>?_);have L:c<α d*b.size:=by grind
     rw[a8H,aao L]at g;obtain rfl:A c=v:=by simpa using g
     rw[hr,a8J];exact V.ro _ _ _ (a16 c L)
    have B:=qP l r r o.type k b H x _ x (.inl ⟨k,rfl⟩) O l7 (β ⟨P,0,ε⟩) (α d) E _ k6 a68 (α h) (a.eval S) z s acq acq a34;have a00:=grownCap_ge l (α d+α h) E k;have l1:=grownCap_le_maxLen l (α d+α h) E k (by unfold maxLen;omega);obtain⟨k5,e,N⟩:=newRow ((χ (α d*b.size)).map A) (α d) (grownCap l (α d+α h) E k) d rfl k6 a05 (λc F x=>by
      grind[cW,Ε,List.getD]) a09 a00 l1 (f.del P) (λn3 o k7=>by
      grind[U.iD,U.eO])
    exact .value (jd n S r r p (by rw[X];exact B)) e N (y _ _ (.inr V.eh))
theorem xh(G:bb u e6 n)(S:Holds u f l)(b:bT f e n=β (i,g))(D:Program):
  ∃p:List Value,Src D l e i e6 p/\α p=α g/\(∀k r,g[k]?=β r->bb u (p.getD k Go.undef) r)/\(∀z∈g,z.one=ζ):=by
 have q:∀(y d c x)(h),f.read y=β h->d+c*e<=α h->
   ∃p:List Value,Src D l e c (.slice (β ⟨y,d,ε⟩) c x) p/\α p=((h.drop d).take (c*e)).length/\(∀k r,((h.drop d).take (c*e))[k]?=β r->bb u (p.getD k Go.undef) r)/\(∀z∈(h.drop d).take (c*e),z.one=ζ):=by
  intro y d c x h E L;obtain⟨s,P,T,A,B,V⟩:=S.read E;have H:=V.1;have t:((P.toList.drop d).take (c*e)).length=c*e:=acs;have W:∀(F),(∀j,F.cell? j=l.cell? j)->(Builtin.firstCells e c (.slice (β ⟨y,d,ε⟩) c x)).run D F=.ok ((P.toList.drop d).take (c*e)).toArray F:=λF I=>by
   grind[run_firstCells_some,Ε,hr,cell_of_row,List.getElem?_take_of_lt]
  refine⟨(P.toList.drop d).take (c*e),⟨rfl,W l (λ_=>rfl),W l.drew (λ_=>rfl),t⟩,acs,λk r m=>?_,λz C=>s z (a8O (a8v C))⟩;have v:k<c*e:=by grind
  rw[a9j v,ab0]at m;have:=V.2 (d+k) r m;grind[Ε,List.getElem?_take_of_lt,Array.getD_eq_getD_getElem?]
 unfold bT at b;split at b
 .rename_i K M;split at b
  case isFalse=>cases b
  rename_i N;simp only[a8t,a9u]at b;obtain⟨rfl,rfl⟩:=b;exact G.src S (by simp_all) D
 .split at b
  case h_2=>cases b
  rename_i h E;split at b
  case isFalse=>cases b
  rename_i C;simp only[a8t,a9u]at b;obtain⟨rfl,rfl⟩:=b;obtain⟨rfl,L⟩:=C;cases G with
  |aq y c x e hk w=>have O:=λx=>q _ 0 _ x h E (by rw[a8J];exact L);simp_all
 .split at b
  case h_2=>cases b
  rename_i h E;split at b
  case isFalse=>cases b
  rename_i C;simp only[a8t,a9u]at b;obtain⟨rfl,rfl⟩:=b;obtain⟨rfl,L⟩:=C;cases G with
  |bE y d c x e hk w=>simp_all
 .cases b
def Jt(z:bb u e6 n)(F:Holds u f l)(c:nu f e n=β (i,g))(r:Program):
  ∃x:List Value,Src r l e i e6 x/\α x=α g/\(∀h k,g[h]?=β k->bb u (x.getD h Go.undef) k)/\(∀C∈g,C.one=ζ):=by
 unfold nu at c;split at c
 .rename_i b;split at c
  case isFalse=>cases c
  rename_i G;simp only[a8t,a9u]at c;obtain⟨rfl,rfl⟩:=c;subst G;obtain rfl:=z.ds;have P:α b.data.toList=b.size:=acr;have D:∀y:World,(Builtin.firstCells 1 b.size (.string b)).run r y=.ok (b.data.toList.map λd=>Value.int .u8 d.toNat).toArray y:=λy=>by
   simp only[Builtin.firstCells,Sem.run_pure];have:b.extract 0 b.size=b:=acr;rw[this];congr 1;apply ac6;simp
  refine⟨b.data.toList.map λd=>Value.int .u8 d.toNat,⟨rfl,D l,D l.drew,acr⟩,acr,λh k p=>?_,λC L=>?_⟩
  .rw[a8H]at p;rw[a9c,a8H];cases E:b.data.toList[h]? with
   |none=>simp[E]at p
   |some d=>
    rw[E]at p;obtain rfl:ah d=k:=by simpa using p
    exact .v _ rfl
  .obtain⟨d,_,rfl⟩:=a8D.1 L;rfl
 .exact xh z F c r
theorem BJ{d:Array Value}(k:∀b∈d.toList,b.oneCell'=ζ)(h:Nat):∀b∈(Builtin.zeroCells d h).toList,b.oneCell'=true:=by intro b c;unfold Builtin.zeroCells at c;simp only[aaB,a8D]at c;obtain⟨p,r,rfl⟩:=c;grind[Nat.eq_zero_or_pos,Nat.mod_lt]
theorem BK(z C:Operand)(D E:TypeId)(I:TypeDesc)(Z:m.underlying E=β I)(k3:(∃a14,I=.slice a14)\/I=.string)(e:o.op=.call {callee:=.builtin .append,args:=#[z,C],argTypes:=#[D,E]})(r:TypeId)(K:m.underlying D=β (.slice r))(c:TypeInfo)(k4:m.info? r=β c)(M:Value)(a03:c.zero=β M)
    (a42:M.cells.size=c.size) (a43:∀z∈M.cells.toList,z.oneCell'=ζ) (k5:0<c.size) (a47:aM z=ζ) (a48:aM C=ζ) (a15:bK u a j) (P:Holds u f l) (h:G ⟨m,q⟩ (.mj c.size c.bytes z C) j f Y):bN m q o a l u f Y:=by
  have A:=a15.ak z a47;have a52:=a15.ak C a48;simp only[G]at h;split at h
  case h_2=>trivial
  rename_i k B a56;obtain⟨g,N,a04,a57,n5⟩:=Jt a52 P a56 m;have a16:∀n9∈g,n9.oneCell'=true:=λn9 K=>by
    obtain⟨S,a05⟩:=aaQ K;have a18:S<α B:=by grind
    have:=a57 S _ (Μ a18);rw[a9c,a05]at this;exact this.ov (n5 _ (a8L a18))
  have a19:=N.size;have a06:bw u g.toArray B:=bw.ed.2 ⟨by trivial,λS a27 n9 a90 a92=>by
    grind⟩
  generalize k6:a.eval z=a27 at A;have newRow:∀(a00:List Value)(b d:Nat)(F:Ψ),α a00=b*c.size->bw u a00.toArray F->(∀i∈F,i.one=ζ)->b+k<=d->
      let y:=a00.toArray++g.toArray++Builtin.zeroCells M.cells (d -(b+k))
      ∃n:Ψ,α n=(d -(b+k))*c.size/\Step u f l u (f.set l.heap.size (.cells (F++B++n))) (l.drew.alloc (.cells y r)):=by
    intro a00 b d F O l2 k7 l3 y;have a61:=BJ a43 (d -(b+k));have V:=bw.pE u _ a61;refine⟨(Builtin.zeroCells M.cells (d -(b+k))).toList.map cV,by simp[size_zeroCells,a42],?_⟩;refine(Step.drew P).trans (Step.new P.drew y r _ (λi W=>?_) ?_)
    . simp only[a8u,a8D]at W
      rcases W with (W|W)|⟨z,_,rfl⟩
      . exact k7 i W
      . exact n5 i W
      . exact oz z
    . rw[bw.ed]at l2 a06 V|-
      grind
  split at h
  . rename_i a62 a01 l4
    rw[l4]at A;obtain⟨rfl,a29,H,k8,h⟩:=h;have a63:∃Q,a27=.slice Q 0 0/\(a01=.nil->Q=ε):=by
      cases A with
      |dn Q d a01 c3 e=>
        rcases a29 with rfl|rfl
        . simp only[Own.me]at e;simp[*]
        . simp only[Own.me]at e;simp[*]
      |J a94 L len d a30 a95 a62 a01 k5 hlen l3 a96 k7 hH a97 e=>rcases a29 with rfl|rfl<;>exact e.elim
    obtain⟨Q,rfl,a98⟩:=a63;by_cases a34:k=0
    . subst a34
      rw[if_pos rfl]at h;have a65:g=[]:=a8q (by simpa using a19);subst a65;have a68:bb u (.slice Q 0 0) (.J [] a01):=by omega
      refine .same P (jd z C D E e ?_) a68 h;rw[k6];have a69:=N.len;have a71:=N.cells;rcases k3 with⟨a14,rfl⟩|rfl<;>cases Q<;>simp[Builtin.append_,run_underlying K,run_underlying Z,sizeOf,typeInfo,k4,a69,a71,storeCells]
    . rw[if_neg a34]at h
      have V:=qP l D E o.type r c M K I Z k3 k4 a03 Q 0 0 [] acr (by cases Q<;>simp[Builtin.firstCells,loadCells,loadCellsFrom]) k (a.eval C) g N acq acq (by simpa using H);simp only[a8J]at V;have t:=grownCap_ge l k 0 r;have l5:=grownCap_le_maxLen l k 0 r (by unfold maxLen;omega);obtain⟨n,k9,l0⟩:=newRow [] 0 (grownCap l k 0 r) [] acr ⟨rfl,λS n9 a73=>by simp at a73⟩ (λi W=>by simp at W) acq;simp only[a8J,a8y]at l0 k9;exact .value (jd z C D E e (by rw[k6];exact V)) l0 (.aq _ _ _ _ k5 t) (h _ _ n P.eh t l5 k9)
  . rename_i x b d a36 l4
    rw[l4]at A;have a38:∀(p:Ψ)(a07:Ψ->bt),f.read x=β p->a36=c.size->α p=d*c.size->(b+k)*c.bytes<=140737488355328->b+k<=9223372036854775807->
        (∀(F:Ψ)(l1:Array Value),bw u l1 F->(∀i∈F,i.one=ζ)->b*c.size+α F<=α p->∃y T l6,l.heap[x]?=β (.cells y T l6)/\(∀S,S<y.size->¬(l6.1<=S/\S<l6.2))/\y.size=α p/\Step u f l u (f.set x (a07 (putAt p (b*c.size) F))) (l.setRow x (dh y (b*c.size) l1.toList)))->
        (if b+k<=d then Y (.aq x (b+k) d c.size) (f.set x (a07 (putAt p (b*c.size) B)))
           else∀a08 a02 n,f a08=ε->b+k<=a02->a02<=maxLen->α n=(a02 -(b+k))*c.size->Y (.aq a08 (b+k) a02 c.size) (f.set a08 (.cells (p.take (b*c.size)++B++n))))->bN m q o a l u f Y:=by
      clear h;intro p a07 w l7 X H k8 a74 h;subst l7;obtain⟨k7,y,T,l6,a81,l8⟩:=P.read w;have a83:=l8.1;cases A with
      |aq x b d a30 a84 l3=>
        have a86:b*c.size<=α p:=by rw[X];exact a8x _ l3
        by_cases s:b+k<=d
        . rw[if_pos s]at h
          have l9:b*c.size+α B<=α p:=by rw[<-a04,a19,X,<-a9s];exact a8x _ s
          obtain⟨n0,n1,a88,n2,a89,n3,n4⟩:=a74 B g.toArray a06 n5 l9;have V:=Bu l D E o.type r c K I Z k3 k4 x b d n0 n1 a88 n2 a89 k (a.eval C) g N a16 s (by rw[n3,a04];exact l9);exact .value (jd z C D E e (by rw[k6];exact V)) n4 (.aq _ _ _ _ k5 s) h
        . rw[if_neg s]at h
          have O:(y.toList.take (b*c.size)).length=b*c.size:=acs;have a09:(Builtin.firstCells c.size b (.slice (β ⟨x,0,ε⟩) b d)).run m l.drew=.ok (y.toList.take (b*c.size)).toArray l.drew:=by
            refine run_firstCells_some l.drew c.size b ⟨x,0,ε⟩ b d _ O (λS v A=>?_);have a05:S<b*c.size:=by grind
            rw[hr,a8J];show l.cell? _= _;grind[cell_of_row,List.getElem?_take_of_lt]
          have V:=qP l D E o.type r c M K I Z k3 k4 a03 (β ⟨x,0,ε⟩) b d _ O a09 k (a.eval C) g N acq acq H;have t:=grownCap_ge l (b+k) d r;have l5:=grownCap_le_maxLen l (b+k) d r (by unfold maxLen;omega);have l2:bw u (y.toList.take (b*c.size)).toArray (p.take (b*c.size)):=by rw[bw.ed]at l8|-;grind
          obtain⟨n,k9,l0⟩:=newRow _ b (grownCap l (b+k) d r) (p.take (b*c.size)) O l2 (λi W=>k7 i (a8v W)) t;exact .value (jd z C D E e (by rw[k6];exact V)) l0 (.aq _ _ _ _ k5 t) (h _ _ n P.eh t l5 k9)
    split at h
    . rename_i p w
      obtain⟨l7,X,H,k8,h⟩:=h;refine a38 p .cells (by simp[U.read,w]) l7 X H k8 (λF l1 a10 a11 a13=>?_) h;obtain⟨n0,n1,n2,n3,n4⟩:=Step.store P w (b*c.size) F l1 a10 a11 a13;grind
    . rename_i p w
      obtain⟨l7,X,H,k8,h⟩:=h;refine a38 p .eW (by simp[U.read,w]) l7 X H k8 (λF l1 a10 a11 a13=>?_) h;obtain⟨n0,n1,n2,n3,n4⟩:=Step.IN P w (b*c.size) F l1 a10 a11 a13;grind
    . trivial
  . rename_i x L b d a36 l4
    rw[l4]at A;split at h
    case h_2=>trivial
    rename_i p w;obtain⟨rfl,X,H,k8,h⟩:=h;obtain⟨k7,y,T,l6,a81,l8⟩:=P.read (l:=x) (p:=p) (by simp[U.read,w]);have a83:=l8.1;cases A with
    |bE x L b d a30 a84 l3=>
      have a86:b*c.size<=d*c.size:=a8x _ l3;by_cases s:b+k<=d
      . rw[if_pos s]at h
        have l9:L+b*c.size+α B<=α p:=by have:=a8x c.size s;grind
        obtain⟨n0,n1,n2,n3,n4⟩:=Step.store P w (L+b*c.size) B g.toArray a06 n5 l9;have V:=IS l D E o.type r c K I Z k3 k4 x L b d n0 n1 _ n2 (x4 _) k (a.eval C) g N a16 s (by rw[n3,a04];exact l9);exact .value (jd z C D E e (by rw[k6];exact V)) n4 (.bE _ _ _ _ _ k5 s) h
      . rw[if_neg s]at h
        have O:((y.toList.drop L).take (b*c.size)).length=b*c.size:=acs;have a09:(Builtin.firstCells c.size b (.slice (β ⟨x,L,ε⟩) b d)).run m l.drew=.ok ((y.toList.drop L).take (b*c.size)).toArray l.drew:=by
          refine run_firstCells_some l.drew c.size b ⟨x,L,ε⟩ b d _ O (λS v A=>?_);have a05:S<b*c.size:=by grind
          rw[hr];show l.cell? _= _;grind[cell_of_row,List.getElem?_take_of_lt]
        have V:=qP l D E o.type r c M K I Z k3 k4 a03 (β ⟨x,L,ε⟩) b d _ O a09 k (a.eval C) g N acq acq H;have t:=grownCap_ge l (b+k) d r;have l5:=grownCap_le_maxLen l (b+k) d r (by unfold maxLen;omega);have l2:bw u ((y.toList.drop L).take (b*c.size)).toArray ((p.drop L).take (b*c.size)):=by rw[bw.ed]at l8|-;grind
        obtain⟨n,k9,l0⟩:=newRow _ b (grownCap l (b+k) d r) ((p.drop L).take (b*c.size)) O l2 (λi W=>k7 i (a8O (a8v W))) t;exact .value (jd z C D E e (by rw[k6];exact V)) l0 (.aq _ _ _ _ k5 t) (h _ _ n P.eh t l5 k9)
  . trivial
end
variable{b2:Type}
section
variable{o:Oper}{a:Act}
def U.set_set(c:U)(b:Nat)(h d:bt):(c.set b h).set b d=c.set b d:=by funext k;simp only[U.set];split<;>rfl
theorem Ju(c:TypeId)(b:Operand)(r:o.op=.box c b)(x:aM b=ζ)(y:bK u a j)(d:Holds u f l)(h:G ⟨m,q⟩ (.lp c b) j f Y):bN m q o a l u f Y:=by obtain⟨z,C⟩:=(y.ak b x).cells h.1;have k:=Step.new d (a.eval b).cells c _ C z;obtain⟨D,p⟩:=Step.freeze k.holds (U.aj f l.heap.size (.cells (ak j b).cells));rw[U.set_set]at p;refine .value ?_ (k.trans p) (.ptr _ _) (h.2 _ d.eh);simp[execOp,r,Instr.box,newVar,newRow]
theorem Jv(p:TypeId)(c:Operand)(d h:Option Operand)(y:o.op=.slice p c d h ε)(r:Nat)(x:TypeId)(z:m.underlying p=β (.array r x))(k:Nat)(C:(m.info? x).map (·.size)=β k)(D:0<k)(E:aM c=ζ)(F:d.all aM=ζ)
  (L:h.all aM=ζ) (P:bK u a j) (S:Holds u f l) (b:G ⟨m,q⟩ (.kv k r c d h) j f Y):bN m q o a l u f Y:=by
 refine BD p c d h y r x z k C D ζ E F L P S ?_;simp only[G]at b|-;split at b
 case h_2=>trivial
 rename_i V W e;split at b
 case h_2=>trivial
 refine⟨b.1,b.2.1,b.2.2.1,?_⟩;have T:=b.2.2.2;split at T
 case h_2=>trivial
 simp_all [U.read,BC]
theorem BL(d:Bool)(D:IntKind)(b c:Operand)(E:Array TypeId)(k:o.op=.call {callee:=.builtin (if d then .max else .min),args:=#[b,c],argTypes:=E})(F:aM b=ζ)(L:aM c=ζ)(p:bK u a j)(r:Holds u f l)(h:G ⟨m,q⟩ (.mi d D b c) j f Y):bN m q o a l u f Y:=by
 have x:=p.ak b F;have y:=p.ak c L;simp only[G]at h;split at h
 case h_2=>trivial
 rename_i T V W e P S;rw[P]at x;rw[S]at y;have z:=x.ds;have C:=y.ds;obtain⟨rfl,g⟩:=h;cases d
 .refine .same r ?_ (.v _ rfl) (by trivial);simp only[execOp,k,resolve,invoke,builtin,a9m,if_false,Sem.run_bind,Sem.run_pure,Result.andThen_ok,List.map_toArray,a8C,a9z,z,C,run_min_int2];grind
 .refine .same r ?_ (.v _ rfl) (by trivial);simp only[execOp,k,resolve,invoke,builtin,if_true,Sem.run_bind,Sem.run_pure,Result.andThen_ok,List.map_toArray,a8C,a9z,z,C,run_max_int2];grind
def BM:∀ {h:Ψ}{d:Υ},bytesOf h=β d->h=d.map ah
 |[],d,b=>by simp only[bytesOf,a8t]at b;subst b;rfl
 |r::h,d,b=>by
  simp only[bytesOf]at b;split at b
  case h_2=>cases b
  rename_i x aO c k;obtain rfl:=Β b;rw[BM k,a8C];congr 1;unfold byteOf at c;split at c
  .rename_i p;split at c
   .rename_i y;obtain rfl:=Β c;simp only[ah];congr 2;have:p.toNat<256:=acq;simp[a9K this];omega
   .cases c
  .cases c
theorem su(b:Υ):flat (b.map ah)=b.map ah:=by
 induction b with
 |nil=>rfl
 |cons c b ih=>simp only[flat,a8C,a8I]at ih|-;rw[ih];rfl
theorem Jx(d h:TypeId)(k:Operand)(w:o.op=.convert d h k)(r:TypeId)(E:m.underlying d=β (.slice r))(F:m.underlying r=β (.int .u8))(L:m.underlying h=β .string)(A:aM k=ζ)(B:bK u a j)(W:Holds u f l)(z:G ⟨m,q⟩ (.qW k) j f Y):bN m q o a l u f Y:=by
 have C:=B.ak k A;simp only[G]at z;split at z
 case h_2=>trivial
 rename_i H e I;rw[I]at C;split at z
 case h_2=>trivial
 rename_i b K;have M:=BM K;subst M;generalize P:a.eval k=x at C;have S:∀x,(convert d h x).run m l=.ok (.string ⟨b.toArray⟩) l->a.eval k=x->bN m q o a l u f Y:=λx N O=>
  .same W (by simp[execOp,w,O,N]) (.v _ rfl) z
 cases T:b with
 |nil=>
  subst T;cases C with
  |dn D c e c3 Q=>
   refine S _ ?_ P;rw[run_convert_bytes_string l d h r D 0 c E F L];cases D with
   |none=>simp[Conv.bytesToString];rfl
   |some D=>have:=run_bytesToString (P:=m) l D 0 c [] acx;rw[this];rfl
  |J y V len c g i H e X hlen Z l1 k3 n s Q=>refine S _ ?_ P;subst hlen;rw[run_convert_bytes_string l d h r _ _ c E F L];have:=run_bytesToString (P:=m) l ⟨y,V,ε⟩ 0 c [] acx;simp only[a9z,a8s];rw[this];rfl
 |cons k4 l2=>
  obtain⟨y,V,c,g,i,k5,X,Z,k6,k3,n,s,_⟩:=C.xd (by rw[T];simp);have k7:g=1:=by have:=k6 (ah k4) (by rw[T];simp);rw[<-this];rfl
  subst k7;refine S x ?_ P;rw[k5];have l3:=run_convert_bytes_arg l d r E F y V (b.map ah).length c (b.map λy=>(y.toNat)) acr (λp k8=>by
   have t:p<α b:=by simpa using k8
   have k9:=W.ro _ _ _ (n p acq);rw[k9];have v:=s p (ah b[p]) (by rw[su];simp[t]);have l0:i p=.int .u8 (b[p].toNat):=by unfold ah at v;exact v.ds
   rw[l0];simp[t]) h L
  simp_all [strOfNums,a9R]
theorem xi{p:Type}(b:List p):∀(d c:Nat),c<d*α b->(δ d b).flatten[c]?=b[c%α b]?
 |0,c,h=>by simp at h
 |d+1,c,h=>by
  rw[aan,a9Z];by_cases k:c<α b
  .rw[aa1 k,a9K k]
  .rw[aaT acq,xi b d (c - α b) (by rw[abl]at h;omega)];grind[Nat.mod_eq_sub_mod]
theorem ly(b:List b2)(c:Nat):(δ c b).flatten.length=c*α b:=by simp
theorem Jy(y:TypeId)(c k:Operand)(W:o.op=.makeSlice y c k)(p:TypeId)(e:m.underlying y=β (.slice p))(b:TypeInfo)(g:m.info? p=β b)(d:Value)(i:b.zero=β d)(r:d.cells.size=b.size)(k3:∀c∈d.cells.toList,c.oneCell'=ζ)(D:0<b.size)
  (n:aM c=ζ) (s:aM k=ζ) (E:bK u a j) (F:Holds u f l) (z:G ⟨m,q⟩ (.kx b.size b.bytes (d.cells.toList.map cV) c k) j f Y):bN m q o a l u f Y:=by
 have L:=E.ak c n;have P:=E.ak k s;simp only[G]at z;split at z
 case h_2=>trivial
 rename_i t h v k4 w A;rw[w]at L;rw[A]at P;have B:=L.ds;have H:=P.ds;obtain⟨rfl,I,K,M,N⟩:=z;have O:=run_make l y p b d e g i t v h h I (abU _) (by rw[Int.mul_comm];exact M) K;have Q:bw u (madeCells d.cells (h.toNat*b.size)) (δ h.toNat (d.cells.toList.map cV)).flatten:=by
  have S:(d.cells.toList.map cV).length=b.size:=by simp[r]
  refine bw.ed.2 ⟨by simp[size_madeCells,r],λT c k5 x X=>?_⟩;have V:T<h.toNat*b.size:=by grind[Ε,ly]
  rw[xi _ _ _ (by rw[S];exact V),S,a8H]at X;rw[a9S]at x;have k6:T%b.size<d.cells.size:=by rw[r];exact aa7 _ D
  simp only[madeCells,r]at x;rw[Array.getElem?_map]at x;simp only[ac7,V,if_true,a9q,a8t]at x;grind[Array.getElem?_eq_getElem,Option.some.injEq,bb.cV]
 refine .value (by simp[execOp,W,B,H,O]) (Step.new F _ p _ (λk7 C=>?_) Q) (.aq _ _ _ _ D (a8P _)) (N _ F.eh);obtain⟨k8,Z,C⟩:=abD.1 C;obtain rfl:=(List.mem_replicate.1 Z).2;obtain⟨c,_,rfl⟩:=a8D.1 C;exact oz c
theorem Jz(N k8:TypeId)(y z:Operand)(k9:o.op=.call {callee:=.builtin .copy,args:=#[y,z],argTypes:=#[N,k8]})(r:TypeId)(l0:m.underlying N=β (.slice r))(S:Nat)(O:(m.info? r).map (·.size)=β S)
  (l1:aM y=ζ) (l2:aM z=ζ) (Q:bK u a j) (i:Holds u f l) (C:G ⟨m,q⟩ (.nj S y z) j f Y):bN m q o a l u f Y:=by
 have x:=Q.ak y l1;have E:=Q.ak z l2;simp only[G]at C;have a09:∀(h p c F d:Nat)(b L:Ψ)(n:Own),bb u (a.eval z) (.J b n)->a.eval y=.slice (β ⟨h,p,ε⟩) c F->d=S->(∀r∈b,α r.cells=S)->f h=β (.cells L)->p+c*S<=α L->
   Y (.v (.int .i64 (min (α b) c))) (f.set h (.cells (putAt L p (flat (b.take c)))))->bN m q o a l u f Y:=by
  intro h p c F d b L n E t l3 P w a10 l4;subst l3;have l5:∀r∈b.take c,α r.cells=d:=λr V=>P r (a8v V);have a11:(flat (b.take c)).length=(min (α b) c)*d:=by rw[cW l5,a8l,Nat.min_comm]
  have a13:min (α b) c*d<=c*d:=a8x _ acq;have l6:∃D:Array Value,(Builtin.firstCells d (min (α b) c) (a.eval z)).run m l=.ok D l/\bw u D (flat (b.take c))/\(∀A∈flat (b.take c),A.one=ζ)/\(Builtin.lenOf (a.eval z)).run m l=.ok (α b) l:=by
   obtain⟨B,W,l7,a14,l8⟩:=E.src i P m;have a15:=((ga c P).2).symm;have a16:=cW P;generalize a18:a.eval z=l9 at E W;have n0:(Builtin.firstCells d (min (α b) c) l9).run m l=.ok (B.take (min (α b) c*d)).toArray l:=by
    cases E with
    |dn n1 X dy c3 n2=>have:=a8q (by rw[l7];rfl);subst this;cases n1<;>simp[Builtin.firstCells,loadCells,loadCellsFrom]
    |J Z k3 len X e s xs dy a19 n3 a27 a29 a30 hH a34 n2=>
     subst n3;have a36:∀k v,B[k]?=β v->l.cell? ((⟨Z,k3,ε⟩:Addr).add k)=β v:=by
      intro k v g;have a38:k<(flat b).length:=by grind
      have H:=W.cells;by_cases k4:b=[]
      .subst k4;trivial
      have n4:e=d:=by
       match b,k4 with
       |a42::a43,_=>simp_all
      subst n4;have n5:=run_firstCells_some (P:=m) l e (α b) ⟨Z,k3,ε⟩ (α b) X ((χ (α b*e)).map s) acr (λk v x=>by
       have g:k<α b*e:=by grind
       rw[a8H,aao g]at x;obtain rfl:s k=v:=by simpa using x
       rw[hr];exact i.ro _ _ _ (hH k g))
      rw[n5]at H;simp only[Result.ok.injEq,and_true]at H;have n9:(χ (α b*e)).map s=B:=by simp_all
      rw[<-n9,a8H,aao acq]at g;obtain rfl:s k=v:=by simpa using g
      rw[hr];exact i.ro _ _ _ (hH k acq)
     grind[run_firstCells_some,min,Nat.mul_le_mul_right]
   refine⟨_,n0,bw.ed.2 ⟨?_,λk y a47 a48 a52=>?_⟩,λA H=>l8 A (by grind),W.len⟩;simp_all;grind
  obtain⟨D,a00,I,k5,a01⟩:=l6;obtain⟨k6,T,a02,a56,a03⟩:=Step.store i w p (flat (b.take c)) D I k5 acq;refine .value ?_ a03 (.v _ rfl) l4;have k7:=run_storeCells_at m h p T D.toList 0 k6 l a02 (by have:=I.1;simp;omega) (I.ov k5);simp only[aab]at k7;have a04:(storeCells ⟨h,p,ε⟩ D.toList).run m l=.ok () (l.setRow h (dh k6 p D.toList)):=by rw[k7];rfl
  cases K:m.info? r with
  |none=>simp[K]at O
  |some ii=>
   have W:ii.size=d:=by simpa[K] using O
   have a05:Nat.min (α b) c=min (α b) c:=rfl;simp[execOp,k9,resolve,invoke,builtin,t,Builtin.copy_,run_underlying l0,a01,sizeOf,typeInfo,K,W,a05,a00,a04,goInt];omega
 split at C
 .rename_i h p c F d b n V M;rw[V]at x;rw[M]at E;obtain⟨rfl,P,C⟩:=C;split at C
  case h_2=>trivial
  rename_i L w;generalize t:a.eval y=a06 at x;cases x with
  |bE h p c F d a07 a08=>grind
 .rename_i h c F d b n V M;rw[V]at x;rw[M]at E;obtain⟨rfl,P,C⟩:=C;split at C
  case h_2=>trivial
  rename_i L w;generalize t:a.eval y=a06 at x;cases x with
  |aq h c F d a07 a08=>grind
 .trivial
theorem JA(C:Bool)(E:TypeId)(k:Operand)(g:TypeId)(S:o.op=.binOp (if C then .neq else .eql) E k (.const (.slice ε 0 0)) g)(T:TypeId)(i:m.underlying E=β (.slice T))(n:aM k=ζ)(s:bK u a j)(c:Holds u f l)
  (d:G ⟨m,q⟩ (.nk C k) j f Y):bN m q o a l u f Y:=by
 have r:=s.ak k n;have V:∀v,a.eval (.const v)=v:=λ_=>rfl;have F:∀b x z,a.eval k=.slice b x z->(execOp a.eval o).run m l=.ok (.value (.bool (xor C b.isNone))) l:=λb x z p=>by
  have W:=run_equalIn_slice_nil l 9999 E T b x z i;cases C
  .simp[execOp,S,p,V,eqGuard,binOp,Op.equal,Op.maxDepth,W]
  .simp[execOp,S,p,V,eqGuard,binOp,Op.equal,Op.maxDepth,W]
 simp only[G]at d;split at d
 case h_3=>trivial
 case h_2=>
  rename_i t x y e L;rw[L]at r;generalize p:a.eval k=w at r;cases r with
  |aq t x y e I A=>exact .same c (F _ x y p) (.v _ rfl) (by simpa using d)
 rename_i B D L;rw[L]at r;generalize p:a.eval k=w at r;cases r with
 |dn b y D c3 P=>
  have h:=F b 0 y p;cases D with
  |nil=>simp only[Own.me]at P;subst P;exact .same c h (.v _ rfl) (by simpa using d)
  |buf H z=>trivial
  |any=>cases b with
   |none=>exact .same c h (.v _ rfl) (by simp_all)
   |some b=>exact .same c h (.v _ rfl) (by simpa using d.2)
  |zero=>cases b with
   |none=>exact .same c h (.v _ rfl) (by simp_all)
   |some b=>exact .same c h (.v _ rfl) (by simpa using d.2)
 |J K off len y e M B D hk hlen A N O hH Q P=>
  have h:=F _ len y p;cases D with
  |nil=>trivial
  |buf H z=>exact .same c h (.v _ rfl) (by simpa using d)
  |any=>exact .same c h (.v _ rfl) (by simpa using d.2)
  |zero=>trivial
theorem JB(k E:TypeId)(y:Operand)(z:o.op=.convert k E y)(c:TypeId)(F:m.underlying k=β .string)(W:m.underlying E=β (.slice c))(e:m.underlying c=β (.int .u8))(g:aM y=ζ)(i:bK u a j)(C:Holds u f l)(L:G ⟨m,q⟩ (.pL y) j f Y):bN m q o a l u f Y:=by
 have p:=i.ak y g;simp only[G]at L;split at L
 case h_2=>trivial
 rename_i b P;rw[P]at p;have n:=p.ds;have s:=run_bytes_of_string l k E c b F W e;have t:(execOp a.eval o).run m l=.ok (.value (.slice (β ⟨l.heap.size,0,ε⟩) b.size (grownCap l b.size 0 c))) (l.drew.alloc (.cells (bytesRow b (grownCap l b.size 0 c)) c ((bytesRow b (grownCap l b.size 0 c)).size,(bytesRow b (grownCap l b.size 0 c)).size+1))):=by simp[execOp,z,n,s]
 have w:=grownCap_ge l b.size 0 c;generalize grownCap l b.size 0 c=S at*;have A:b.size<=(bytesRow b S).size:=by
  have:b.data.size=b.size:=rfl;simp[bytesRow]
  try omega
 have B:∀d (h:d<b.size),(bytesRow b S)[d]?=β (.int .u8 ((b.data[d]'h).toNat)):=λd h=>by
  simp_all [bytesRow,aaU]
 generalize bytesRow b S=r at*;have k:=Step.write (j3:=l.drew.alloc (.cells r c (r.size,r.size+1))) C.drew l.heap.size b.size r c f rfl rfl rfl acr (heap_alloc_new l.drew _) (λD _ T=>qN l.drew _ D T) (.inl rfl)
   A (λo v p=>by rw[C.ng]at p;cases p) (λM o N F=>F)
   (λo z=>by rw[C.eh]at z;cases z)
 refine .value t ((Step.drew C).trans k) ?_ L;by_cases H:b.size=0
 .have:b.data.toList=[]:=by simp_all
  rw[H,this];exact .dn _ _ _ (λI=>by cases I) trivial
 .refine .J _ _ _ _ 1 (λd=>r.getD d undef) _ _ acq ?_ w (λc P=>?_) (λO V=>?_) (λd h=>?_) (λd Q x=>?_) trivial;simp
  .obtain⟨D,_,rfl⟩:=a8D.1 P;rfl
  .rw[su]at V;obtain⟨D,_,rfl⟩:=a8D.1 V;rfl
  simp_all [a8J,bk.pC]
  .rw[su,a8H]at x;have h:d<b.size:=by rw[aaJ]at x;obtain⟨D,T,_⟩:=x;have:=(a8p.1 T).1;trivial
   have K:d<b.data.size:=h;rw[a9S,aa2 K,a9q,a8t]at x;subst x;rw[a9g,B d h];exact .v _ rfl
end
variable{I:Bool}
section
variable{o:Oper}{a:Act}
def bK.map(p:bK u a j){b:Array Operand}(r:∀d∈b.toList,aM d=ζ):bw u (b.map a.eval) (b.toList.map (Go.bD.ak j)):=by
 refine bw.ed.2 ⟨acr,λx d y c h=>?_⟩;rw[aaB,a8H]at c;rw[a8H]at h;cases k:b.toList[x]? with
 |none=>simp[k]at c
 |some op=>
  rw[k]at c h;obtain rfl:a.eval op=d:=by simpa using c
  obtain rfl:Go.bD.ak j op=y:=by simpa using h
  exact p.ak op (r op (a8r k))
theorem bw.append{b c:Array Value}(d:bw u b g)(h:bw u c B):bw u (b++c) (g++B):=by rw[bw.ed]at d h|-;grind
theorem JC(b:FuncId)(first c:Array Operand)(r:o.op=.makeFunc (.func b) first c)(x:∀d∈first.toList,aM d=ζ)(y:∀d∈c.toList,aM d=ζ)(h:bK u a j)(z:Holds u f l)
  (C:G ⟨m,q⟩ (.bL b first.toList c.toList) j f Y):bN m q o a l u f Y:=by
 have k:=h.map x;have p:=h.map y;refine .same z ?_ (.bL b _ _ _ _ k.1 k.2 p.1 p.2) C;simp only[execOp,r,Instr.makeFunc,Sem.run_bind,Sem.run_pure,Result.andThen_ok]
theorem JD(b:Operand)(args:Array Operand)(y:Array TypeId)(z:o.op=.call {callee:=.value b,args,argTypes:=y})(C:aM b=ζ)
  (D:∀b∈args.toList,aM b=ζ) (p:bK u a j) (r:Holds u f l) (c:G ⟨m,q⟩ (.jc b args.toList) j f Y):bN m q o a l u f Y:=by
 intro w A;have h:=p.ak b C;simp only[G]at c;split at c
 case h_2=>trivial
 rename_i k E F L;obtain⟨P,c⟩:=c;obtain⟨d,S,T,V⟩:∃d,m.funcs[k]?=β d/\d.body.isSome/\d.name≠ "runtime.NumGoroutine" :=by unfold fH at P;grind
 rw[L]at h;generalize W:a.eval b=B at h;cases h with
 |bL k ws e E F hw g i n=>
  have s:=bw.append (bw.append ⟨hw,g⟩ (p.map D)) ⟨i,n⟩;have t:=c _ l u s r;have v:(execOp a.eval o).run m l=.ok (.enter k (ws++args.map a.eval++e)) l:=by
   cases x:d.body with
   |none=>simp[x]at T
   |some H=>simp[execOp,z,resolve,W,Deferred.ofValue,invoke,callFunc,S,V,x]
  unfold Oper.wp;rw[v];exact t.mono λI K r=>by
   grind
def JE(b:TypeId)(c:Operand)(h:o.op=.makeInterface b c)(d:TypeDesc)(k:m.underlying b=β d)(p:∀r,d≠.interface r)(x:aM c=ζ)(y:bK u a j)(z:Holds u f l)(C:G ⟨m,q⟩ (.qX b c) j f Y):bN m q o a l u f Y:=by
 refine .same z ?_ (.iface b _ _ (y.ak c x)) C;cases d<;>first
  |exact absurd rfl (p _)
  |simp[execOp,h,Instr.makeInterface,run_underlying k]
def sv{b:Value}(c:∀d,(Op.equalIn (d+1) b0 e6 b).run m l=.ok I l):(Op.equalIn 10000 b0 e6 b).run m l=.ok I l:=c 9999
theorem BN(h:Holds u f l)(b:lu f e=ζ):∃c T,l.heap[e]?=β (.cells c T (0,0)):=by
 unfold lu at b;split at b
 .rename_i k d;obtain⟨_,c,T,p,_⟩:=h.cx e _ d;simp_all
 .rename_i T k d;obtain⟨_,c,p,_⟩:=h.cx e _ d;simp_all
 .cases b
def JF(z:Bool)(S:TypeId)(p r:Operand)(K:TypeId)(n:o.op=.binOp (if z then .neq else .eql) S p r K)(V:TypeId)(x:m.underlying S=β (.pointer V))(W:TypeInfo)(M:m.info? V=β W)(s:W.size≠0)(N:aM p=ζ)(O:aM r=ζ)(t:bK u a j)(C:Holds u f l)
  (d:G ⟨m,q⟩ (.ni z p r) j f Y):bN m q o a l u f Y:=by
 have b:=t.ak p N;have c:=t.ak r O;simp only[G]at d;have D:∀(e g:Option Addr)(y:Bool),a.eval p=.pointer e->a.eval r=.pointer g->(Op.equalIn 10000 S (.pointer e) (.pointer g)).run m l=.ok y l->Y (.v (.bool (xor z y))) f->bN m q o a l u f Y:=by
  intro e g y v w E F;cases z
  .exact .same C (v:=.bool y) (by simp[execOp,n,v,w,eqGuard,binOp,Op.equal,Op.maxDepth,E]) (.v _ rfl) (by simpa using F)
  .exact .same C (v:=.bool (!y)) (by simp[execOp,n,v,w,eqGuard,binOp,Op.equal,Op.maxDepth,E]) (.v _ rfl) (by simpa using F)
 split at d
 .rename_i L Q h k;rw[h]at b;rw[k]at c;exact D _ _ θ b.iE c.ds (sv (λP=>by simp[Op.equalIn,run_underlying x])) (by simpa using d)
 .rename_i L Q h k;rw[h]at b;rw[k]at c;exact D _ _ θ b.ds c.iE (sv (λP=>by simp[Op.equalIn,run_underlying x])) (by simpa using d)
 .rename_i h k;rw[h]at b;rw[k]at c;exact D _ _ ζ b.ds c.ds (sv (λP=>by simp[Op.equalIn,run_underlying x])) (by simpa using d)
 .rename_i L A B H h k;rw[h]at b;rw[k]at c;obtain⟨⟨X,c2⟩,F⟩:=d;obtain⟨k5,T,E⟩:=BN C X;obtain⟨k6,k7,Z⟩:=BN C c2;refine D _ _ _ b.iE c.iE ?_ F;have I:(sizeOf V).run m l=.ok W.size l:=by simp[sizeOf,typeInfo,M]
  by_cases i:L=B/\A=H
  .obtain⟨rfl,rfl⟩:=i;exact sv (λP=>by simp[Op.equalIn,run_underlying x,I,s,run_sameAddr_same])
  .have k3:(⟨L,A,ε⟩:Addr)≠⟨B,H,ε⟩:=λk4=>i (by simpa using k4);have:=run_sameAddr_other (P:=m) (w:=l) k3 E Z;exact sv (λP=>by simp[Op.equalIn,run_underlying x,I,s,this,i])
 .exact d.elim
def JG(b:Operand)(r:o.op=.panic b)(x:aM b=ζ)(y:bK u a j)(z:Holds u f l)(d:G ⟨m,q⟩ (.nm b) j f Y):bN m q o a l u f Y:=by
 intro P C;have c:=y.ak b x;simp only[G]at d;split at d
 case h_2=>trivial
 rename_i h D E;rw[E]at c;have k:=c;generalize F:a.eval b=p at c k;cases c with
 |iface h p D S=>
  have L:(execOp a.eval o).run m l=.halt (.panic (.iface h p)) l:=by simp[execOp,r,F,run_panic_iface]
  unfold Oper.wp;rw[L];exact C _ _ _ _ _ (.refl z) k d
def JH(d:TypeId)(b:Operand)(p:o.op=.range d b)(r:m.underlying d=β .string)(x:aM b=ζ)(y:bK u a j)(h:Holds u f l)(c:G ⟨m,q⟩ (.kz b) j f Y):bN m q o a l u f Y:=by
 have k:=y.ak b x;simp only[G]at c;split at c
 case h_2=>trivial
 rename_i z C;rw[C]at k;have D:=k.ds;refine .value ?_ (Step.x3 h _ (.it z 0) (heap_alloc_new l _)) (.ptr _ _) (c _ h.eh);simp[execOp,p,D,Instr.range,run_underlying r]
theorem JI(x:Operand)(D:o.op=.next x ζ)(P:aM x=ζ)(S:bK u a j)(z:Holds u f l)(h:G ⟨m,q⟩ (.nn x) j f Y):bN m q o a l u f Y:=by
 have E:=S.ak x P;simp only[G]at h;split at h
 case h_2=>trivial
 rename_i k i T;rw[T]at E;obtain⟨rfl,h⟩:=h;have F:=E.iE;split at h
 case h_2=>trivial
 rename_i d c L;have p:l.heap[k]?=β (.stringIter d c):=z.cx k _ L;have n:=(a9o.1 p).1;by_cases y:c<d.size
 .rw[if_pos y]at h;have V:=Step.uu z (c:=.stringIter d (c+(Utf8.decode d c).2)) (Z:=.it d (c+(Utf8.decode d c).2)) (by simp[L]) p (λs t j W=>by cases W) (by
   show(l.heap.setIfInBounds k _)[k]?= _;simp_all)
  refine .value (v:=.tuple #[.bool ζ,.int .i64 c,.int .i32 (Utf8.decode d c).1]) ?_ V (.aJ _ _ rfl (λr e b=>?_)) h
  .have C:(getObj k).run m l=.ok (.stringIter d c) l:=by simp[getObj,Sem.run,p]
   have g:(setObj k (.stringIter d (c+(Utf8.decode d c).2))).run m l=.ok () {l with heap:=l.heap.setIfInBounds k (.stringIter d (c+(Utf8.decode d c).2))}:=by simp[setObj,Sem.run,p]
   simp[execOp,D,F,Instr.next,C,y,g,goInt]
  .match r,b with
   |0,b=>simp at b;subst b;exact .v _ rfl
   |1,b=>simp at b;subst b;exact .v _ rfl
   |2,b=>simp at b;subst b;exact .v _ rfl
   |r+3,b=>simp at b
 .rw[if_neg y]at h;refine .same z (v:=.tuple #[.bool θ]) ?_ (.aJ _ _ rfl (λr e b=>?_)) h
  .have C:(getObj k).run m l=.ok (.stringIter d c) l:=by simp[getObj,Sem.run,p]
   simp[execOp,D,F,Instr.next,C,y]
  .match r,b with
   |0,b=>simp at b;subst b;exact .v _ rfl
   |r+1,b=>simp at b
end
section
def sw(b:Program)(p:Nat)(c:TypeId)(d:List c6):Prop:=
 ∀(r:Bool)(x:Nat)(a:World)(h:Array Value)(k:Nat),fI d ((h.toList.drop k).take (α d))->
  ∃o,(part c h k).run b a=.ok o a/\(Instr.checkKey r (x+p) c o).run b a=.ok () a
def xj{d:c6}{h:TypeDesc}(k:m.underlying b0=β h)(o:h.isRow=θ)(p:∀c r a b,d.fit a->(Instr.checkKey c (r+1) b0 a).run m b=.ok () b):sw m (e+1) b0 [d]:=by intro c x b D E y;obtain⟨a,z,C,F⟩:=one_cell y;exact⟨a,oH k o _ _ _ z b,p c (x+e) a b C⟩
theorem JJ(a:m.underlying b0=β (.int e2)):sw m (e+1) b0 [.int e2]:=
 xj a rfl λb c d h k=>by
  simp_all [Instr.checkKey,run_underlying]
theorem JK(a:m.underlying b0=β .bool):sw m (e+1) b0 [.bool]:=
 xj a rfl λb c d h k=>by
  simp_all [Instr.checkKey,run_underlying]
theorem JL(a:m.underlying b0=β .string):sw m (e+1) b0 [.str]:=
 xj a rfl λb c d h k=>by
  simp_all [Instr.checkKey,run_underlying]
theorem xk:∀(d:Nat)(h:TypeId)(k:List c6),flatK m d h=β k->m.cellsOf h=α k->(m.info? h).isSome->sw m d h k
 |0,h,k,a,_,_=>by trivial
 |d+1,h,k,a,L,j=>by
  simp only[flatK]at a;cases hu:m.underlying h with
  |none=>simp[hu]at a
  |some desc=>
   simp only[hu]at a;cases desc<;>simp only[]at a<;>first
    |(cases a;done)
    |skip
   case int N=>obtain rfl:=Β a;exact JJ hu
   case bool=>obtain rfl:=Β a;exact JK hu
   case string=>obtain rfl:=Β a;exact JL hu
   case array o t=>
    split at a
    case h_2=>cases a
    rename_i b T;split at a
    case isFalse=>cases a
    rename_i p;obtain rfl:=Β a;have ih:=xk d t b T p.1 p.2;obtain⟨x,C⟩:=a8X.1 j;obtain⟨u,v⟩:=a8X.1 p.2;have O:u.size=α b:=by simpa[Program.cellsOf,v] using p.1
    have D:x.size=(δ o b).flatten.length:=by simpa[Program.cellsOf,C] using L
    intro V y E z c F;refine⟨_,mn hu rfl C z c E,?_⟩;rw[show y+(d+1)=(y+d)+1 by omega,Instr.checkKey];simp only[Sem.run_bind,run_underlying hu,Result.andThen_ok];simp only[Std.Legacy.Range.forIn_eq_forIn_range',Std.Legacy.Range.size,Nat.sub_zero,Nat.add_one_sub_one,Nat.div_one];have r:fI (δ o b).flatten (((z.extract c (c+x.size)).toList.drop (0*α b)).take (δ o b).flatten.length):=by rw[abk,a9I,ux,D,a9B,aak];exact F
    clear F D L a hu;generalize z.extract c (c+x.size)=W at r|-;generalize (0)=P at r|-
    induction o generalizing P with
    |zero=>simp
    |succ o Q=>simp only[aan,a9Z]at r;obtain⟨G,S⟩:=pM r;have e:min (α b) (b++(δ o b).flatten).length=α b:=acr;have f:(b++(δ o b).flatten).length - α b=(δ o b).flatten.length:=acr;rw[a9B,e]at G;rw[a9F,a8T,f,show P*α b+α b=(P+1)*α b by grind]at S;obtain⟨w,g,l⟩:=ih V y E W (P*α b) G;simp_all [List.range'_succ,run_sizeOf]
   case struct A=>
    split at a;trivial;obtain⟨x,C⟩:=a8X.1 j;have D:x.size=α k:=by simpa[Program.cellsOf,C] using L
    intro V y E z c F;refine⟨_,mn hu rfl C z c E,?_⟩;rw[show y+(d+1)=(y+d)+1 by omega,Instr.checkKey];simp only[Sem.run_bind,run_underlying hu,Result.andThen_ok];rw[<-Array.forIn_toList];have r:fI k (((z.extract c (c+x.size)).toList.drop 0).take (α k)):=by rw[a9I,ux,D,a9B,aak];exact F
    have ih:=λh b B H I=>xk d h b B H I;clear F D L hu;generalize z.extract c (c+x.size)=W at r|-;generalize (0)=n at r a;generalize A.toList=q at a|-
    induction q generalizing n k with
    |nil=>simp
    |cons X q K=>
     simp only[r0]at a;split at a
     case isFalse=>cases a
     rename_i s;split at a
     case h_2=>cases a
     rename_i b i T M;split at a
     case isFalse=>cases a
     rename_i p;obtain rfl:=Β a;obtain⟨G,S⟩:=pM r;have e:min (α b) (b++i).length=α b:=acr;have f:(b++i).length - α b=α i:=acr;rw[a9B,e]at G;rw[a9F,a8T,f,<-p.1]at S;obtain⟨w,g,l⟩:=ih _ _ T p.1 p.2 V y E W n G;rw[<-s.1]at g;simp only[List.forIn_cons,Sem.run_bind,s.2,ne_eq,not_false_eq_true,if_true,Result.andThen_ok,g,l,Sem.run_pure];exact K _ _ S M
def JM{a:c6}(b:a.fit e6)(c:Nat):Instr.sameBits c e6 e6=true:=by
 cases a<;>cases e6<;>first
  |exact b.elim
  |(simp[Instr.sameBits];done)
  |(simp only[Instr.sameBits];exact(Go.MapKept.bytes_beq _ _).2 rfl)
theorem JN{k:Array Value}:∀ {b:List c6},fI b k.toList->Instr.sameBits (e+1) (.agg k) (.agg k)=true:=by
 intro b d;simp only[Instr.sameBits,beq_self_eq_true,a9N];rw[a8A];have:∀(b:List c6)(a:List Value),fI b a->∀h∈a.zip a,Instr.sameBits e h.1 h.2=true:=by
  intro b
  induction b with
  |nil=>intro a d h c;cases a with
   |nil=>cases c
   |cons _ _=>exact d.elim
  |cons o b ih=>intro a d h c;cases a with
   |nil=>cases c
   |cons p a=>
    rcases a8E.1 c with rfl|c
    .exact JM d.1 e
    .exact ih a d.2 h c
 grind
def dt(a:bk):List MapEntry->List (R×R×Nat)->Prop
 |[],[]=>True
 |b::es,c::us=>ow a b c/\dt a es us
 |_,_=>False
def ll.list{o:bk}:∀ {d:List MapEntry}{h:List (R×R×Nat)},α d=α h->(∀(k:Nat)(a:MapEntry)(b:R×R×Nat),d[k]?=β a->h[k]?=β b->ow o a b)->dt o d h
 |[],[],_,_=>trivial
 |a::d,b::h,c,p=>⟨p 0 a b rfl rfl,ll.list (by simpa using c) λk a b r x=>p (k+1) a b (by trivial) (by trivial)⟩
 |[],_:: _,c,_=>by simp at c
 |_:: _,[],c,_=>by simp at c
theorem BO{C:bk}{x:Nat}{h:TypeId}{k:List (Nat×c6)}(i:flatK m x h=β (jS k))(N:x<=10000)(T:m.cellsOf h=(jS k).length)(V:(m.info? h).isSome){j:TypeDesc}(L:m.underlying h=β j)(l:j.isRow=ζ)
  {W:Value}{o:Ψ} (O:bb C W (.agg o)) (n:di k o) (y:World):∀(D:List MapEntry)(E:List (R×R×Nat))(c:Nat),dt C D E->(∀F∈E,∃z,F.1=.agg z/\di k z)->
  ∃d,(Instr.findAsking h W D c).run m y=.ok d y/\(match dx E (.agg o) c with
   |none=>d=ε
   |some (e,v)=>∃p,d=β (e,p.val)/\c<=e/\D[e - c]?=β p/\p.key=W/\bb C p.val v)
 |[],[],c,_,_=>⟨ε,by rfl,rfl⟩
 |[],_:: _,_,a,_=>a.elim
 |_:: _,[],_,a,_=>a.elim
 |p::D,F::E,c,a,q=>by
  obtain⟨⟨f,l6,l7⟩,Q⟩:=a;obtain⟨z,s,X⟩:=q F acr;rw[s]at f;cases O with
  |agg b _ Y t u=>
   generalize w:p.key=l8 at f;cases f with
   |agg ws _ l9 Z k3=>
    have A:bw C b o:=⟨t,u⟩;have B:bw C ws z:=⟨Z,k3⟩;obtain⟨k4,k5⟩:=pN _ o b.toList n (bw.ed.1 A).1 (bw.ed.1 A).2;obtain⟨k6,k7⟩:=pN _ z ws.toList X (bw.ed.1 B).1 (bw.ed.1 B).2;have k8:b.size=(jS k).length:=by have:=oG k4;trivial
    have k9:ws.size=(jS k).length:=by have:=oG k6;trivial
    obtain⟨g,H⟩:=a8X.1 V;have I:g.size=(jS k).length:=by simpa[Program.cellsOf,H] using T
    obtain⟨n0,n1,d,P,S,K,n2⟩:=uy x h _ i T V (10000 - x) y b ws 0 (by grind) (by grind);rw[mn L l H]at P S;have l0:b.extract 0 (0+g.size)=b:=by rw[a8J,I,<-k8];simp
    have l1:ws.extract 0 (0+g.size)=ws:=by rw[a8J,I,<-k9];simp
    rw[l0]at P;rw[l1]at S;simp only[Result.ok.injEq,and_true]at P S;subst P;subst S;rw[show 10000 - x+x=10000 by omega]at K;have l2:(b=ws)↔d=true:=by grind[Γ,Array.toList_inj]
    have l3:peq (.agg o) (.agg z)=d:=by
     rw[aaG,qR,<-l2,k5,k7];constructor
     .intro a;have n3:=R.agg.inj a;have:∀G r:List Value,G.map R.v=r.map R.v->G=r:=λG r a=>by
       induction G generalizing r with
       |nil=>cases r with
        |nil=>rfl
        |cons _ _=>cases a
       |cons n4 G ih=>cases r with
        |nil=>cases a
        |cons n5 r=>grind
      grind
     .rintro rfl;rfl
    obtain⟨l4,l5,n9⟩:=BO i N T V L l (.agg b o Y t u) n y D E (c+1) Q λF L=>q F (by simp[L]);have M:(Op.equal h (.agg b) (.agg ws)).run m y=.ok d y:=K;simp only[dx,s,l3];cases d with
    |true=>refine⟨β (c,p.val),by simp[Instr.findAsking,w,M],?_⟩;grind
    |false=>refine⟨l4,by simp[Instr.findAsking,w,M,l5],?_⟩;grind
end
structure mq(a:Program)(b:TypeId)(rs:List (Nat×c6)):Prop where
 flat:∃d,d<=10000/\flatK a d b=β (jS rs)
 size:a.cellsOf b=(jS rs).length
 info:(a.info? b).isSome
 row:∃c,a.underlying b=β c/\c.isRow=ζ/\(match a.underlying b with|some (.array _ _)|some (.struct _)=>ζ|_=>θ)=ζ
variable{j4:List (Nat × c6)}
section
theorem mq.check(a:mq m b0 j4)(r:bb u e6 (.agg g))(x:di j4 g)(d:Bool)(c:World):(Instr.checkKey d 10000 b0 e6).run m c=.ok () c:=by
 obtain⟨h,S,y⟩:=a.flat;obtain⟨T,z,C,_⟩:=a.row;cases r with
 |agg b _ V D E=>
  have k:bw u b g:=⟨D,E⟩;obtain⟨F,W⟩:=pN _ g b.toList x (bw.ed.1 k).1 (bw.ed.1 k).2;have G:b.size=(jS j4).length:=by have:=oG F;trivial
  obtain⟨o,p⟩:=a8X.1 a.info;have L:o.size=(jS j4).length:=by simpa[Program.cellsOf,p] using a.size
  obtain⟨e,P,f⟩:=xk h b0 _ y a.size a.info d (10000 - h) c b 0 (by grind);rw[mn z C p]at P;have i:b.extract 0 (0+o.size)=b:=by rw[a8J,L,<-G];simp
  grind
theorem mq.find(a:mq m b0 j4)(r:bb u e6 (.agg g))(x:di j4 g)(k:World){b:List MapEntry}{c:List (R×R×Nat)}(y:dt u b c)(z:∀C∈c,∃o,C.1=.agg o/\di j4 o):
  ∃d,(Instr.findKey b0 e6 b).run m k=.ok d k/\(match dx c (.agg g) 0 with
   |none=>d=ε
   |some (p,v)=>∃h,d=β (p,h.val)/\b[p]?=β h/\h.key=e6/\bb u h.val v):=by
 obtain⟨L,D,E⟩:=a.flat;obtain⟨P,F,G,S⟩:=a.row;obtain⟨d,T,V⟩:=BO E D a.size a.info F G r x k b c 0 y z;grind[run_findKey_eq,dx,id]
def JO{k o:TypeId}(p:m.underlying k=β (.map o b0))(r:mq m o j4){x:TypeInfo}(L:m.info? b0=β x)(P:x.zero=β e6){y:Value}(z:bb u y (.agg g))(C:di j4 g)
  {b:Array MapEntry} (D:l.heap[e]?=β (.map b i)) {a:List (R×R×Nat)} (S:dt u b.toList a) (T:∀V∈a,∃E,V.1=.agg E/\di j4 E) (c:Bool):
  ∃d,(Instr.lookup k (.map (β e)) y c).run m l=.ok d l/\(match dx a (.agg g) 0 with
   |none=>d=if c then .tuple #[e6,.bool θ]else e6
   |some (_,v)=>∃h,bb u h v/\d=if c then .tuple #[h,.bool ζ]else h):=by
 obtain⟨s,F,W⟩:=r.find z C l S T;have G:=r.check z C b.isEmpty l;have f:(zeroValue b0).run m l=.ok e6 l:=by simp[zeroValue,typeInfo,L,P]
 revert W;cases dx a (.agg g) 0 with
 |none=>rintro rfl;exact⟨_,by simp[Instr.lookup,run_underlying p,MapKept.run_getObj_map D,G,F,f],rfl⟩
 |some j=>obtain⟨t,v⟩:=j;rintro⟨n,rfl,_,_,q⟩;exact⟨_,by simp[Instr.lookup,run_underlying p,MapKept.run_getObj_map D,G,F],n.val,q,rfl⟩
def dt.leq:∀ {a:List MapEntry}{b:List (R×R×Nat)},dt u a b->α a=α b
 |[],[],_=>rfl
 |_:: _,_:: _,c=>by simp[dt.leq c.2]
theorem dt.set:∀ {c:List MapEntry}{d:List (R×R×Nat)}{h:Nat}{b:MapEntry}{k o:Value}{v:R},dt u c d->c[h]?=β b->b.key=k->bb u o v->
  dt u (c.modify h λb=> {b with key:=k,val:=o}) (d.modify h λp=>(p.1,v,p.2.2))
 |[],_,_,_,_,_,_,_,a,_,_=>by simp at a
 |_:: _,[],_,_,_,_,_,a,_,_,_=>a.elim
 |x::c,p::d,0,b,k,o,v,a,he,hk,r=>by
  simp at he;subst he;simp only[abZ];exact⟨⟨by rw[<-hk];exact a.1.1,r,a.1.2.2⟩,a.2⟩
 |x::c,p::d,h+1,b,k,o,v,a,he,hk,r=>by
  simp only[ac0];exact⟨a.1,dt.set a.2 (by trivial) hk r⟩
def dt.push:∀ {b:List MapEntry}{c:List (R×R×Nat)}{d:MapEntry}{h:R×R×Nat},dt u b c->ow u d h->dt u (b++[d]) (c++[h])
 |[],[],_,_,_,a=>⟨a,trivial⟩
 |_:: _,_:: _,_,_,a,k=>⟨a.1,dt.push a.2 k⟩
theorem JP{p S:TypeId}(r:m.underlying b0=β (.map p S))(x:mq m p j4){c:Value}{v:R}(d:bb u e6 (.agg g))(k:di j4 g)(y:bb u c v)
  {a:Array MapEntry} (h:l.heap[i]?=β (.map a e)) {b:List (R×R×Nat)} (o:dt u a.toList b) (T:∀V∈b,∃z,V.1=.agg z/\di j4 z):
  ∃C:Array MapEntry,(Instr.mapUpdate b0 (.map (β i)) e6 c).run m l=.ok () {l with heap:=l.heap.setIfInBounds i (.map C (lo b (.agg g) v e).2)}/\dt u C.toList (lo b (.agg g) v e).1:=by
 obtain⟨I,D,W⟩:=x.find d k l o T;have E:=x.check d k θ l;unfold lo;revert W;cases dx b (.agg g) 0 with
 |none=>
  rintro rfl;refine⟨a.push {key:=e6,val:=c,born:=e},?_,?_⟩
  .simp[Instr.mapUpdate,run_underlying r,MapKept.run_getObj_map h,E,D,MapKept.run_setObj_map _ h]
  .simp only[Array.toList_push];exact o.push ⟨d,y,rfl⟩
 |some f=>
  obtain⟨F,K⟩:=f;rintro⟨G,rfl,j,n,M⟩;have q:Instr.sameBits 10000 e6 e6=true:=by
   cases d with
   |agg L _ N s t=>have P:bw u L g:=⟨s,t⟩;obtain⟨w,O⟩:=pN _ g L.toList k (bw.ed.1 P).1 (bw.ed.1 P).2;have A:(10000)=9999+1:=rfl;rw[A];exact JN w
  have B:(Instr.keyThatStays e6 e6).run m l=.ok e6 l:=by simp[Instr.keyThatStays,q]
  have H:((a[F]?).map (·.key)).getD e6=e6:=by simp_all
  refine⟨a.modify F λG=> {G with key:=e6,val:=c},?_,?_⟩
  .simp only[Instr.mapUpdate,Sem.run_bind,run_underlying r,Result.andThen_ok,MapKept.run_getObj_map h,E,D,H,B,MapKept.run_setObj_map _ h]
  .rw[Array.toList_modify];exact o.set j n y
end
section
variable{o:Oper}{a:Act}
def bb.sx(b:bb u e6 (.ey e)):e6=.map (β e):=by cases b;rfl
def JQ(c:TypeId)(d:o.op=.makeMap c ε)(b:Holds u f l)(h:G ⟨m,q⟩ .kA j f Y):bN m q o a l u f Y:=by refine .value ?_ (Step.x3 b _ (.mp [] 0) ⟨#[],heap_alloc_new l _,rfl,λp r x k=>by simp at k⟩) (.ey _) (h _ b.eh);simp[execOp,d,Instr.makeMap]
def JR(d:TypeId)(b:Operand)(r:o.op=.call {callee:=.builtin .len,args:=#[b],argTypes:=#[d]})(x y:TypeId)(z:m.underlying d=β (.map x y))
  (C:aM b=ζ) (D:bK u a j) (h:Holds u f l) (c:G ⟨m,q⟩ (.pI b) j f Y):bN m q o a l u f Y:=by
 have k:=D.ak b C;simp only[G]at c;split at c
 case h_2=>trivial
 rename_i p E;rw[E]at k;have F:=k.sx;split at c
 case h_2=>trivial
 rename_i L P S;obtain⟨T,V,W,e⟩:=h.cx p _ S;refine .same h (v:=.int .i64 (α L)) ?_ (.v _ rfl) c;simp[execOp,r,resolve,invoke,builtin,F,Builtin.len_,run_underlying z,run_getObj_map l p T P V,goInt,W]
def JS(z C D:TypeId)(p r:Operand)(h:Bool)(e:o.op=.lookup z p r h)(g:m.underlying z=β (.map C D))(i:mq m C j4){E:TypeInfo}(s:m.info? D=β E)(t:E.zero=β e6)(F:bb u e6 n)
  (w:aM p=ζ) (A:aM r=ζ) (L:bK u a j) (x:Holds u f l) (c:G ⟨m,q⟩ (.kB h j4 n p r) j f Y):bN m q o a l u f Y:=by
 have P:=L.ak p w;have S:=L.ak r A;simp only[G]at c;split at c
 case h_2=>trivial
 rename_i B H I K;rw[I]at P;rw[K]at S;have M:=P.sx;split at c
 case h_2=>trivial
 rename_i T l0 N;obtain⟨O,Q,c⟩:=c;obtain⟨X,Z,l1,k3⟩:=x.cx B _ N;have k4:dt u X.toList T:=ll.list (by trivial) λd k5 y k6 k7=>k3 d k5 y (by simpa using k6) k7;obtain⟨v,k8,k⟩:=JO g i s t S O Z k4 Q h;have V:(execOp a.eval o).run m l=.ok (.value v) l:=by simp[execOp,e,M,k8]
 revert c k;cases dx T (.agg H) 0 with
 |none=>
  intro c k;subst k;refine .same x V ?_ c;cases h with
  |false=>exact F
  |true=>exact .aJ _ _ rfl (λd y b=>by
    match d,b with
    |0,b=>simp at b;subst b;exact F
    |1,b=>simp at b;subst b;exact .v _ rfl
    |d+2,b=>simp at b)
 |some k9=>
  obtain⟨d,l2⟩:=k9;intro c k;obtain⟨l3,W,rfl⟩:=k;refine .same x V ?_ c;cases h with
  |false=>exact W
  |true=>exact .aJ _ _ rfl (λd y b=>by
    match d,b with
    |0,b=>simp at b;subst b;exact W
    |1,b=>simp at b;subst b;exact .v _ rfl
    |d+2,b=>simp at b)
theorem dt.ok{k:bk}:∀ {p:List MapEntry}{r:List (R×R×Nat)},dt k p r->∀(d:Nat)(b:MapEntry)(c:R×R×Nat),p[d]?=β b->r[d]?=β c->ow k b c
 |_:: _,_:: _,h,0,b,c,he,hu=>by simp at he hu;subst he;subst hu;exact h.1
 |_:: _,_:: _,h,d+1,b,c,he,hu=>dt.ok h.2 d b c (by trivial) (by trivial)
 |[],_,_,_,_,_,he,_=>by simp at he
theorem JT(r P i:TypeId)(c d v:Operand)(h:o.op=.mapUpdate r c d v\/o.op=.insert r c d v)(n:m.underlying r=β (.map P i))(s:mq m P j4)
  (t:aM c=ζ) (w:aM d=ζ) (A:aM v=ζ) (x:bK u a j) (S:Holds u f l) (b:G ⟨m,q⟩ (.lr j4 c d v) j f Y):bN m q o a l u f Y:=by
 have T:=x.ak c t;have V:=x.ak d w;have B:=x.ak v A;simp only[G]at b;split at b
 case h_2=>trivial
 rename_i H y I K;rw[I]at T;rw[K]at V;have M:=T.sx;split at b
 case h_2=>trivial
 rename_i k z W;obtain⟨N,O,b⟩:=b;obtain⟨Q,C,k6,X⟩:=S.cx H _ W;have Z:dt u Q.toList k:=ll.list (by trivial) λD p E F L=>X D p E (by simpa using F) L;obtain⟨e,k3,g⟩:=JP n s V N B C Z O;have k7:=(a9o.1 C).1;have k4:=Step.uu S (c:=.map e (lo k (.agg y) (Go.bD.ak j v) z).2) (Z:=.mp (lo k (.agg y) (Go.bD.ak j v) z).1 (lo k (.agg y) (Go.bD.ak j v) z).2) (by simp[W]) C (λk8 p j k5=>by cases k5)
  ⟨e,by
   simp_all,by simpa using g.leq,λD p E F L=>g.ok D p E (by simpa using F) L⟩
 refine .skip ?_ k4 b;rcases h with h|h<;>simp[execOp,h,M,k3]
end
end Go.bD
