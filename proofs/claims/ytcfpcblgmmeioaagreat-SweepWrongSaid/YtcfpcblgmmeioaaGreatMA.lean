import Derived.WalkKit
import Derived.Deep.MidRow
import Derived.ChangeKeysEq
import Derived.LaidEql
import Derived.Laws.Cover3
import Derived.WalkSmall
import Derived.Lib.Builder
import Derived.Lib.UnsafeStr
import Derived.MapKept
import Derived.WideKeyRuns
set_option linter.all false
open Option renaming some->β,none->ε
open List renaming replicate->ζ,range->ψ,length_append->Γ,getElem?_eq_some_iff->Ε,take_of_length_le->Θ,length->α
open Bool renaming true->η,false->ι
open BitVec renaming ofInt->π
open UInt8 renaming ofNat->ς
open Prod renaming fst->Β
abbrev Ρ:=List Int
abbrev Τ:=List UInt8
abbrev Υ:=List Nat
abbrev Φ:=List UInt32
def δ{p:Prop}(h:p:=by omega):p:=h
def ρ{p:Prop}(h:p:=by simp):p:=h
def Κ{p:Prop}(h:p:=by simp;omega):p:=h
def a7s{p:Prop}(h:p:=by assumption):p:=h
def Λ{p:Prop}(h:p:=by decide):p:=h
def Ο{p:Prop}(h:p:=by kernel_rfl):p:=h
def a7v{p:Prop}(h:p:=by rfl):p:=h
def υ:=@And.intro
def Δ:=@Option.some.inj
def Ν:=@List.getElem?_eq_getElem
def a2U:=@Θ
def a2V:=@Γ
def Ξ:=@Bool.and_eq_true
def a2X:=@List.length_take
def a2Y:=@List.eq_nil_of_length_eq_zero
def a2Z:=@Ε
def a3a:=@List.length_nil
def Ζ:=@Ne.symm
def a3c:=@Option.some.injEq
def a3d:=@List.mem_of_getElem?
def a3e:=@List.length_cons
def a3f:=@List.mem_append
def a3g:=@Nat.mul_le_mul_right
def a3h:=@List.all_eq_true
def a3i:=@List.length_drop
def a3j:=@List.mem_of_mem_take
def a3k:=@List.length_map
def a3l:=@List.nil_append
def a3m:=@List.mem_map
def a3n:=@List.mem_cons
def a3o:=@List.append_assoc
def a3p:=@Int.toNat_natCast
def a3q:=@List.map_cons
def a3r:=@List.getElem_mem
def a3s:=@List.mem_singleton
def a3t:=@Nat.zero_add
def a3u:=@List.getElem?_map
def a3v:=@List.mem_of_mem_drop
def a3w:=@Nat.le_refl
def a3x:=@List.pairwise_cons
def a3y:=@List.take_append_drop
def a3z:=@List.drop_eq_getElem_cons
def a3A:=@List.flatMap_cons
def a3B:=@List.getElem_of_mem
def a3C:=@Option.isSome_iff_exists
def a3D:=@List.drop_eq_nil_of_le
def a3E:=@Bool.not_true
def a3F:=@List.takeWhile_append_dropWhile
def a3G:=@List.drop_drop
def a3H:=@Bool.not_false
def a3I:=@List.foldl_cons
def a3J:=@Array.getD_eq_getD_getElem?
def a3K:=@List.take_length
def a3L:=@List.getD_eq_getElem?_getD
def a3M:=@Nat.mul_one
def a3N:=@Nat.zero_le
def a3O:=@List.getElem?_take_of_lt
def a3P:=@Option.map_some
def a3Q:=@List.pairwise_append
def a3R:=@Bool.false_eq_true
def a3S:=@List.flatMap_append
def a3T:=@List.length_pos_iff
def a3U:=@Nat.add_mul
def a3V:=@List.map_append
def a3W:=@List.take_add_one
def a3X:=@List.getD_cons_zero
def a3Y:=@List.append_nil
def a3Z:=@UInt8.toNat_inj
def a4a:=@List.take_take
def a4b:=@List.mem_range
def a4c:=@Nat.lt_of_lt_of_le
def a4d:=@Array.getElem?_eq_some_iff
def a4e:=@List.set_eq_take_append_cons_drop
def a4f:=@Nat.le_trans
def a4g:=@Nat.shiftRight_eq_div_pow
def a4h:=@Prod.mk.injEq
def a4i:=@List.drop_take
def a4j:=@List.getD_cons_succ
def a4k:=@List.takeWhile_cons
def a4l:=@List.cons_append
def a4m:=@List.pairwise_iff_getElem
def a4n:=@UInt8.toNat_ofNat'
def a4o:=@List.take_succ_eq_append_getElem
def a4p:=@Bool.not_eq_true'
def a4q:=@Bool.true_and
def a4r:=@List.not_mem_nil
def a4s:=@Int.toNat_of_nonneg
def a4t:=@List.map_congr_left
def a4u:=@List.length_singleton
def a4v:=@Array.getElem?_toList
def a4w:=@Nat.min_eq_left
def a4x:=@Bool.or_eq_true
def a4y:=@List.mem_cons_of_mem
def a4z:=@List.drop_append
def a4A:=@Nat.mod_eq_of_lt
def a4B:=@List.drop_of_length_le
def a4C:=@List.flatten_cons
def a4D:=@List.getElem?_append_left
def a4E:=@List.length_replicate
def a4F:=@List.take_append_of_le_length
def a4G:=@Option.isSome_none
def a4H:=@List.mem_cons_self
def a4I:=@Option.getD_some
def a4J:=@Nat.pow_le_pow_right
def a4K:=@Nat.add_zero
def a4L:=@List.map_nil
def a4M:=@List.length_eq_one_iff
def a4N:=@List.map_map
def a4O:=@Nat.mod_lt
def a4P:=@List.drop_zero
def a4Q:=@List.take_zero
def a4R:=@List.mem_append_right
def a4S:=@Array.getElem?_eq_getElem
def a4T:=@List.mem_or_eq_of_mem_set
def a4U:=@List.eraseIdx_eq_take_drop_succ
def a4V:=@Nat.min_self
def a4W:=@List.mem_append_left
def a4X:=@List.sum_cons
def a4Y:=@List.drop_append_of_le_length
def a4Z:=@List.getElem?_range
def a5a:=@Iff.rfl
def a5b:=@Bool.false_and
def a5c:=@Nat.testBit_lt_two_pow
def a5d:=@Nat.sub_self
def a5e:=@Option.isSome_some
def a5f:=@List.append_of_mem
def a5g:=@List.cons.injEq
def a5h:=@List.take_left'
def a5i:=@Nat.eq_of_mul_eq_mul_right
def a5j:=@List.foldl_append
def a5k:=@List.pairwise_map
def a5l:=@Array.toList_map
def a5m:=@List.perm_middle
def a5n:=@List.replicate_succ
def a5o:=@List.drop_succ_cons
def a5p:=@List.length_zipWith
def a5q:=@List.dropWhile_cons
def a5r:=@Nat.add_sub_cancel_left
def a5s:=@List.getElem?_cons_zero
def a5t:=@Bool.eq_iff_iff
def a5u:=@Nat.xor_lt_two_pow
def a5v:=@Option.map_eq_some_iff
def a5w:=@List.take_left
def a5x:=@Bool.false_xor
def a5y:=@List.drop_left
def a5z:=@List.take_length_add_append
def a5A:=@List.drop_length_add_append
def a5B:=@List.getElem?_of_mem
def a5C:=@Nat.eq_of_testBit_eq
def a5D:=@List.getElem?_append_right
def a5E:=@Array.getElem?_append_left
def a5F:=@List.exists_cons_of_ne_nil
def a5G:=@List.cons.inj
def a5H:=@Nat.one_mul
def a5I:=@Nat.div_add_mod
def a5J:=@List.drop_left'
def a5K:=@List.length_set
def a5L:=@List.mem_filter
def a5M:=@List.getElem?_drop
def a5N:=@Int.cast_ofNat_Int
def a5O:=@List.filter_append
def a5P:=@List.mem_of_mem_eraseIdx
def a5Q:=@List.foldl_nil
def a5R:=@List.getElem?_cons_succ
def a5S:=@List.length_pos_of_mem
def a5T:=@List.map_drop
def a5U:=@List.take_append
def a5V:=@Option.getD_none
def a5W:=@List.flatMap_def
def a5X:=@List.append_cons
def a5Y:=@List.filter_cons
def a5Z:=@List.any_eq_true
def a6a:=@Bool.and_eq_false_iff
def a6b:=@List.length_filter_le
def a6c:=@Array.getElem?_setIfInBounds_ne
def a6d:=@Nat.zero_mul
def a6e:=@Array.eq_empty_of_size_eq_zero
def a6f:=@List.getElem?_append
def a6g:=@Nat.shiftLeft_add_eq_or_of_lt
def a6h:=@Array.length_toList
def a6i:=@List.take_succ_cons
def a6j:=@List.filter_eq_self
def a6k:=@Option.map_map
def a6l:=@Nat.mul_le_mul
def a6m:=@List.mem_filterMap
def a6n:=@Array.extract_eq_self_of_le
def a6o:=@Nat.add_assoc
def a6p:=@List.map_take
def a6q:=@Nat.lt_trichotomy
def a6r:=@List.ext_getElem?
def a6s:=@List.flatMap_nil
def a6t:=@List.mem_flatten
def a6u:=@Array.toList_inj
def a6v:=@List.isEmpty_iff
def a6w:=@Nat.shiftLeft_eq
def a6x:=@Int.zero_add
def a6y:=@List.ext_getElem
def a6z:=@List.drop_length
def a6A:=@Int.sub_zero
def a6B:=@List.Pairwise.imp_of_mem
def a6C:=@Nat.le_mul_of_pos_right
def a6D:=@List.filter_cons_of_neg
def a6E:=@List.filter_cons_of_pos
def a6F:=@Int.eq_ofNat_of_zero_le
def a6G:=@List.append_inj
def a6H:=@Nat.testBit_xor
def a6I:=@Nat.div_le_self
def a6J:=@List.sum_append
def a6K:=@List.filter_nil
def a6L:=@Int.le_refl
def a6M:=@BitVec.isLt
def a6N:=@List.range_succ_eq_map
def a6O:=@Nat.le_mul_of_pos_left
def a6P:=@Prod.mk.inj
def a6Q:=@List.getElem?_set_self
def a6R:=@List.modify_zero_cons
def a6S:=@List.modify_succ_cons
def a6T:=@Array.getElem?_append
def a6U:=@Nat.le_div_iff_mul_le
def a6V:=@List.take_succ
def a6W:=@List.getElem?_eq_none
def a6X:=@Nat.add_sub_add_right
def a6Y:=@List.singleton_append
def a6Z:=@Array.ext'
def a7a:=@Array.getElem?_range
def a7b:=@Bool.or_eq_false_iff
def a7c:=@Bool.and_true
def a7d:=@Bool.false_or
def a7e:=@Array.toList_zipIdx
def a7f:=@Nat.mul_le_mul_left
def a7g:=@List.drop_set_of_lt
def a7h:=@Nat.le_of_eq
def a7i:=@Nat.succ_mul
def a7j:=@Nat.add_comm
def a7k:=@Nat.pow_succ
def a7l:=@Nat.mul_comm
def a7m:=@Nat.succ_pos
def a7n:=@List.all_map
def a7o:=@Nat.lt_or_ge
namespace Go.bt
open Go
inductive Own where
 |any
 |nil
 |zero
 |buf (g cap:Nat)
inductive R where
 |v (x:Value)
 |ptr (l off:Nat)
 |bR (cs:List R)
 |J (xs:List R) (o:Own)
 |bB (l off len cap k:Nat)
 |aq (l n cap k:Nat)
 |agg (cs:List R)
 |aF (a:List R)
 |iface (t:TypeId) (x:R)
 |bA (f:Nat) (pre cap:List R)
 |ey (l:Nat)
abbrev Χ:=List R
def R.cells:R->Χ
 |.agg cs=>cs
 |.aF _=>[]
 |a=>[a]
def R.one:R->Bool
 |.agg _=>ι
 |.aF _=>ι
 |_=>η
def flat(a:Χ):Χ:=a.flatMap R.cells
abbrev bb:=Nat->Nat->Option Value
def Own.ok(a:Own)(b c d:Nat):Prop:=
 match a with
 |.any=>True
 |.buf h k=>h=b/\c=0/\k=d
 |_=>False
def Own.lh(a:Own)(b:Option Addr)(c:Nat):Prop:=
 match a with
 |.any=>True
 |.nil=>b=ε
 |.zero=>c=0
 |.buf _ _=>False
inductive aQ(p:bb):Value->R->Prop
 |v (x:Value) (h:x.oneCell'=η):aQ p x (.v x)
 |ptr (l off:Nat):aQ p (.pointer (β ⟨l,off,ε⟩)) (.ptr l off)
 |bR (b off:Nat) (C:Nat->Value) (cs:Χ) (E:∀c∈cs,c.one=η) (hH:∀d,d<α cs->p b (off+d)=β (C d))
   (D:∀d r,cs[d]?=β r->aQ p (C d) r):aQ p (.pointer (β ⟨b,off,ε⟩)) (.bR cs)
 |cX (a:Option Addr) (cap:Nat) (o:Own) (bS:a=ε->cap=0) (L:o.lh a cap):aQ p (.slice a 0 cap) (.J [] o)
 |J (b off len cap k:Nat) (C:Nat->Value) (xs:Χ) (o:Own) (hk:0<k) (hlen:len=α xs) (F:len<=cap) (P:∀e∈xs,α e.cells=k)
   (E:∀c∈flat xs,c.one=η) (hH:∀d,d<len*k->p b (off+d)=β (C d)) (D:∀d r,(flat xs)[d]?=β r->aQ p (C d) r) (L:o.ok b off cap):
   aQ p (.slice (β ⟨b,off,ε⟩) len cap) (.J xs o)
 |bB (l off len cap k:Nat) (hk:0<k) (F:len<=cap):aQ p (.slice (β ⟨l,off,ε⟩) len cap) (.bB l off len cap k)
 |aq (l n cap k:Nat) (hk:0<k) (F:n<=cap):aQ p (.slice (β ⟨l,0,ε⟩) n cap) (.aq l n cap k)
 |agg (z:Array Value) (cs:Χ) (E:∀c∈cs,c.one=η) (G:z.size=α cs) (D:∀d r,cs[d]?=β r->aQ p (z.getD d undef) r):aQ p (.agg z) (.agg cs)
 |aF (z:Array Value) (cs:Χ) (G:z.size=α cs) (D:∀d r,cs[d]?=β r->aQ p (z.getD d undef) r):aQ p (.tuple z) (.aF cs)
 |iface (t:TypeId) (x:Value) (y:R) (h:aQ p x y):aQ p (.iface t x) (.iface t y)
 |bA (f:Nat) (ws z:Array Value) (cF cs:Χ) (hw:ws.size=α cF) (S:∀d r,cF[d]?=β r->aQ p (ws.getD d undef) r) (G:z.size=α cs) (D:∀d r,cs[d]?=β r->aQ p (z.getD d undef) r):aQ p (.func (.func f) ws z) (.bA f cF cs)
 |ey (l:Nat):aQ p (.map (β l)) (.ey l)
def bn(h:bb)(a:Array Value)(b:Χ):Prop:=a.size=α b/\∀c d,b[c]?=β d->aQ h (a.getD c undef) d
def bb.le(c d:bb):Prop:=∀a b v,c a b=β v->d a b=β v
def bb.le.refl(a:bb):a.le a:=λ_ _ _ b=>b
variable{t:bb}
theorem bb.le.trans{a b:bb}(h:t.le a)(k:a.le b):t.le b:=λc d v o=>k c d v (h c d v o)
variable{e3:Value}
def aQ.mono{E:bb}(F:t.le E){a:R}(p:aQ t e3 a):aQ E e3 a:=by
 induction p with
 |v e3 p=>exact .v e3 p
 |ptr b off=>exact .ptr b off
 |bR r off x cs c hH _ ih=>exact .bR r off x cs c (λy z=>F _ _ _ (hH y z)) ih
 |cX a cap C bS D=>exact .cX a cap C bS D
 |J r off len cap d x xs C hk hlen h G c hH _ D ih=>exact .J r off len cap d x xs C hk hlen h G c (λy z=>F _ _ _ (hH y z)) ih D
 |bB b off len cap d hk h=>exact .bB b off len cap d hk h
 |aq b L cap d hk h=>exact .aq b L cap d hk h
 |agg k cs c o _ ih=>exact .agg k cs c o ih
 |aF k cs o _ ih=>exact .aF k cs o ih
 |iface P e3 S _ ih=>exact .iface P e3 S ih
 |bA T ws k cF cs hw _ o _ V ih=>exact .bA T ws k cF cs hw V o ih
 |ey b=>exact .ey b
def bn.mono{a b:bb}(k:a.le b){c:Array Value}{d:Χ}(h:bn a c d):bn b c d:=⟨h.1,λo p r=>(h.2 o p r).mono k⟩
variable{q b7:R}
def aQ.nd(a:aQ t e3 q)(b:q.one=η):e3.oneCell'=true:=by cases a<;>first|assumption|rfl|(simp[R.one]at b)
theorem aQ.undef(a:bb):aQ a Go.undef (.aF []):=.aF #[] [] rfl (λc d b=>by simp at b)
theorem aQ.cells{o:bb}{b:Value}{h:R}(p:aQ o b h)(D:0<α h.cells):bn o b.cells h.cells/\∀k∈h.cells,k.one=true:=by
 have r:=p;cases p with
 |agg x cs E y z=>trivial
 |aF x cs y z=>trivial
 |v b F=>
  refine⟨⟨?_,?_⟩,by intro k c;simp[R.cells]at c;subst c;rfl⟩
  .cases b<;>simp_all [Value.cells,R.cells,Value.oneCell']
  .intro d C a
   match d,a with
   |0,a=>simp[R.cells]at a;subst a;cases b<;>simp_all [Value.cells,Value.oneCell']
   |d+1,a=>trivial
 |_=>
  refine⟨⟨rfl,?_⟩,by intro k c;simp[R.cells]at c;subst c;rfl⟩;intro d C a
  match d,a with
  |0,a=>simp[R.cells]at a;subst a;exact r
  |d+1,a=>simp[R.cells]at a
inductive bl where
 |cells (cs:Χ)
 |ro (cs:Χ)
 |buf (k n cap:Nat)
 |it (t:ByteArray) (pos:Nat)
 |mp (es:List (R×R×Nat)) (clock:Nat)
 |uT (m:Option Nat) (since:Nat) (seen:Υ) (a:Nat)
 |od (T:TypeId) (cs:Χ)
 |eZ (cs:Χ)
abbrev U:=Nat->Option bl
def U.set(b:U)(c:Nat)(d:bl):U:=λa=>if a=c then β d else b a
def U.del(b:U)(c:Nat):U:=λa=>if a=c then ε else b a
def U.emp:U:=λ_=>ε
def U.sub(c d:U):Prop:=∀a b,c a=β b->d a=β b
def qN(c:bb)(a:MapEntry)(b:R×R×Nat):Prop:=aQ c a.key b.1/\aQ c a.val b.2.1/\a.born=b.2.2
def nf(k:bb)(a:Array MapEntry)(b:List (R×R×Nat)):Prop:=a.size=α b/\∀(c:Nat)(d:MapEntry)(h:R×R×Nat),a[c]?=β d->b[c]?=β h->qN k d h
def nf.mono{o p:bb}(r:o.le p){x:Array MapEntry}{y:List (R×R×Nat)}(a:nf o x y):nf p x y:=
 ⟨a.1,λb c d h k=>⟨(a.2 b c d h k).1.mono r,(a.2 b c d h k).2.1.mono r,(a.2 b c d h k).2.2⟩⟩
def kn(d:bb)(h:World)(b:Nat):bl->Prop
 |.cells cs=>(∀k∈cs,k.one=η)/\∃a T,h.heap[b]?=β (.cells a T (0,0))/\bn d a cs/\∀c,d b c=ε
 |.ro cs=>(∀k∈cs,k.one=η)/\∃a T x,h.heap[b]?=β (.cells a T x)/\bn d a cs/\∀c,c<a.size->d b c=β (a.getD c undef)
 |.buf o p cap=>0<o/\p<=cap/\cap<=maxLen/\∃a T,h.heap[b]?=β (.cells a T (0,0))/\a.size=cap*o/\∀c,p*o<=c->d b c=ε
 |.it y pos=>h.heap[b]?=β (.stringIter y pos)
 |.mp us clock=>∃r,h.heap[b]?=β (.map r clock)/\nf d r us
 |.uT z since seen C=>h.heap[b]?=β (.mapIter z since seen.toArray C)
 |.eZ cs=>(∀k∈cs,k.one=η)/\∃a T,h.heap[b]?=β (.cells a T (a.size,a.size+1))/\bn d a cs/\∀c,d b c=ε
 |.od T cs=>(∀k∈cs,k.one=η)/\∃a,h.heap[b]?=β (.cells a T (0,0))/\bn d a cs/\∀c,d b c=ε
structure Holds(a:bb)(c:U)(w:World):Prop where
 ro:∀b o v,a b o=β v->w.cell? ⟨b,o,ε⟩=β v
 cM:∀l o,c l=β o->kn a w l o
structure Step(k:bb)(c:U)(w:World)(h:bb)(d:U)(a:World):Prop where
 holds:Holds h d a
 le:k.le h
 os:a.os=w.os
 tape:a.tape=w.tape
 output:a.output=w.output/\w.drawn<=a.drawn
 size:w.heap.size<=a.heap.size
 block:∀b,b<w.heap.size->c b=ε->a.heap[b]?=w.heap[b]?
 dQ:∀b,d b≠ε->c b≠ε\/w.heap.size<=b
 lY:∀b o,h b o≠ε->k b o≠ε\/c b≠ε\/w.heap.size<=b
 iN:∀b cs,b<w.heap.size->c b=β (.ro cs)->a.heap[b]?=w.heap[b]? /\(d b=ε\/∃p,d b=β (.ro p))
def Step.refl{b:bb}{c:U}{d:World}(a:Holds b c d):Step b c d b c d:=
 ⟨a,.refl b,rfl,rfl,⟨rfl,a3w _⟩,a3w _,λ_ _ _=>rfl,λ_ a=>.inl a,λ_ _ a=>.inl a,λ_ _ _ a=>⟨rfl,.inr ⟨_,a⟩⟩⟩
theorem Step.trans{C D E:bb}{F o r:U}{G L P:World}(b:Step C F G D o L)(c:Step D o L E r P):Step C F G E r P where
 holds:=c.holds
 le:=b.le.trans c.le
 os:=c.os.trans b.os
 tape:=c.tape.trans b.tape
 output:=⟨c.output.1.trans b.output.1,a4f b.output.2 c.output.2⟩
 size:=a4f b.size c.size
 block:=λa h x=>by
  have y:o a=none:=by
   cases d:o a with
   |none=>rfl
   |some p=>
     rcases b.dQ a (by simp[d])with z|z
     .trivial
     .omega
  rw[c.block a (a4c h b.size) y,b.block a h x]
 dQ:=λa h=>by
  rcases c.dQ a h with d|d
  .exact b.dQ a d
  .exact .inr (a4f b.size d)
 lY:=λa p h=>by
  rcases c.lY a p h with d|d|d
  .exact b.lY a p d
  .exact .inr (b.dQ a d)
  .exact .inr (.inr (a4f b.size d))
 iN:=λa T h x=>by
  obtain⟨y,k⟩:=b.iN a T h x;have S:=a4c h b.size;rcases k with k|⟨V,k⟩
  .refine⟨by rw[c.block a S k,y],.inl ?_⟩;cases d:r a with
   |none=>rfl
   |some p=>
     rcases c.dQ a (by simp[d])with z|z
     .trivial
     .omega
  .obtain⟨W,e⟩:=c.iN a V S k;simp_all
variable{f u e1:U}{e i v M b9 h9:Nat}{l h7:World}
def Holds.lt(a:Holds t f l){v:Value}(b:t e i=β v):e<l.heap.size:=
 World.block_lt_of_cell? l _ (a.ro e i v b)
def Holds.lZ(b:Holds t f l)(a:Nat):t l.heap.size a=none:=by
 cases c:t l.heap.size a with
 |none=>rfl
 |some v=>have:=b.lt c;omega
variable{X j6:bl}
theorem kn.lt(a:kn t l e X):e<l.heap.size:=by
 cases X with
 |cells cs=>obtain⟨_,c,T,b,_⟩:=a;grind
 |ro cs=>obtain⟨_,c,T,d,b,_⟩:=a;grind
 |buf h k cap=>obtain⟨_,_,_,c,T,b,_⟩:=a;grind
 |it o pos=>exact(a4d.1 a).1
 |mp us clock=>obtain⟨p,b,_⟩:=a;grind
 |uT r since seen x=>exact(a4d.1 a).1
 |od T cs=>obtain⟨_,c,b,_⟩:=a;grind
 |eZ cs=>obtain⟨_,c,T,b,_⟩:=a;grind
def Holds.dQ(a:Holds t f l):f l.heap.size=none:=by
 cases b:f l.heap.size with
 |none=>rfl
 |some v=>have:=(a.cM _ _ b).lt;omega
theorem kn.kept{x:bb}(o:kn t h7 e X)(r:t.le x)(p:l.heap[e]?=h7.heap[e]?)(L:∀a,x e a≠ε->t e a≠ε):kn x l e X:=by
 have y:∀a,t e a=ε->x e a=none:=λa z=>by
  grind
 cases X with
 |cells cs=>obtain⟨c,d,T,b,h,k⟩:=o;exact⟨c,d,T,by rw[p];exact b,h.mono r,λa=>y a (k a)⟩
 |ro cs=>obtain⟨c,d,T,C,b,h,k⟩:=o;exact⟨c,d,T,C,by rw[p];exact b,h.mono r,λa z=>r _ _ _ (k a z)⟩
 |buf P S cap=>obtain⟨c,D,E,d,T,b,h,k⟩:=o;exact⟨c,D,E,d,T,by rw[p];exact b,h,λa z=>y a (k a z)⟩
 |it V pos=>exact by show l.heap[e]?= _;rw[p];exact o
 |mp us clock=>obtain⟨F,b,G⟩:=o;exact⟨F,by rw[p];exact b,G.mono r⟩
 |uT W since seen f=>exact by show l.heap[e]?= _;rw[p];exact o
 |od T cs=>obtain⟨c,d,b,h,k⟩:=o;exact⟨c,d,by rw[p];exact b,h.mono r,λa=>y a (k a)⟩
 |eZ cs=>obtain⟨c,d,T,b,h,k⟩:=o;exact⟨c,d,T,by rw[p];exact b,h.mono r,λa=>y a (k a)⟩
def Holds.drop(a:Holds t f l)(d:u.sub f):Holds t u l:=⟨a.ro,λb c h=>a.cM b c (d b c h)⟩
theorem Step.drop{o p:bb}{r x c:U}{y z:World}(a:Step o r y p x z)(d:c.sub x):Step o r y p c z where
 holds:=a.holds.drop d
 le:=a.le
 os:=a.os
 tape:=a.tape
 output:=a.output
 size:=a.size
 block:=a.block
 dQ:=λb C=>a.dQ b (by
  cases h:c b with
  |none=>trivial
  |some k=>simp[d b k h])
 lY:=a.lY
 iN:=λb D C h=>by
  obtain⟨E,G⟩:=a.iN b D C h;refine⟨E,?_⟩;cases F:c b with
  |none=>simp
  |some k=>have L:=d b k F;simp_all
def Holds.drew{a:bb}{b:U}{c:World}(d:Holds a b c):Holds a b c.drew:=⟨d.ro,λh k o=>by
 have:=d.cM h k o;trivial⟩
def Step.drew{b:bb}{c:U}{d:World}(a:Holds b c d):Step b c d b c d.drew:=
 ⟨a.drew,.refl b,rfl,rfl,⟨rfl,Nat.le_succ _⟩,a3w _,λ_ _ _=>rfl,λ_ a=>.inl a,λ_ _ a=>.inl a,λ_ _ _ a=>⟨rfl,.inr ⟨_,a⟩⟩⟩
def up(b:R->U->Prop):R->U->Prop:=λv c=>∃a,a.sub c/\b v a
def hb(x:Program)(y:FuncId)(z:Χ)(k:U)(C D:R->U->Prop):Prop:=
 ∀(o:Array Value)(d:World)(h:bb),bn h o z->Holds h k d->
  Calls x y o d λp r=>(∃v a b c,p=.returned v/\Step h k d b c r/\aQ b v a/\C a c)\/
   (∃v a b c,p=.panicked [{v,recovered:=ι}]/\Step h k d b c r/\aQ b v a/\D a c)
theorem hb.mono{c:Program}{d:FuncId}{h:Χ}{k:U}{o p r x:R->U->Prop}(y:hb c d h k o r)(G:∀a b,o a b->p a b)(L:∀a b,r a b->x a b):hb c d h k p x:=
 λz C D E F=>(y z C D E F).mono λ_ _ P=>by
  grind
def AC(p:Program)(r:FuncId)(x:Χ)(c:U)(y:R->U->Prop):Prop:=
 ∀(d:Array Value)(a:World)(b:bb),bn b d x->Holds b c a->
  Calls p r d a λz C=>∃v h k o,z=.returned v/\Step b c a k o C/\aQ k v h/\y h o
variable{s Z:R -> U -> Prop}{b4:FuncId}{g A c0:Χ}{m:Program}
def AC.p(a:AC m b4 g f s):hb m b4 g f s Z:=
 λb c d h k=>(a b c d h k).mono λ_ _ o=>.inl o
def hb.G7(b:hb m b4 g f s (up λ_ _=>False)):AC m b4 g f s:=
 λc d h k o=>(b c d h k o).mono λ_ _ a=>by
  rcases a with a|⟨v,p,r,x,y,z,C,_,_,D⟩
  .exact a
  .trivial
def AC.mono{c:Program}{d:FuncId}{h:Χ}{k:U}{o p:R->U->Prop}(r:AC c d h k o)(x:∀a b,o a b->p a b):AC c d h k p:=
 λy z C D E=>(r y z C D E).mono λ_ _ ⟨v,a,F,b,G,L,P,S⟩=>⟨v,a,F,b,G,L,P,x _ _ S⟩
def Shift(k:Χ)(c:U)(o:Χ)(p:U):Prop:=
 ∀(d:Array Value)(a:World)(b:bb),bn b d k->Holds b c a->∃h,bn h d o/\Step b c a h p a
def AC.pre(d:AC m b4 A f s)(h:Shift g u A f):AC m b4 g u s:=
 λa b k o p=>by
  obtain⟨r,x,c⟩:=h a b k o p;exact(d a b r x c.holds).mono λ_ _ ⟨v,y,z,f,C,D,E,F⟩=>⟨v,y,z,f,C,c.trans D,E,F⟩
def U.pt(b c:U):Prop:=∀a,b a=ε\/c a=ε
def U.join(b c:U):U:=λa=>(b a).or (c a)
def U.ma(a:f e=β X):(f.join u) e=β X:=by simp[U.join,a]
def U.oe(a:f e=ε):(f.join u) e=u e:=by simp[U.join,a]
def Step.frame{z:bb}(c:Step t f l z e1 h7)(C:f.pt u)(L:Holds t (f.join u) l):
  Step t (f.join u) l z (e1.join u) h7/\e1.pt u:=by
 have D:∀b d,u b=β d->f b=ε/\kn t l b d:=λb d r=>by
  have a:=(C b).resolve_right (by simp[r]);exact⟨a,L.cM b d (by rw[U.oe a];exact r)⟩
 have E:e1.pt u:=λb=>by
  cases r:u b with
  |none=>simp
  |some d=>
   left;obtain⟨y,o⟩:=D b d r;cases a:e1 b with
   |none=>rfl
   |some F=>
     rcases c.dQ b (by simp[a])with p|p
     .trivial
     .have:=o.lt;omega
 refine⟨⟨⟨c.holds.ro,λb d r=>?_⟩,c.le,c.os,c.tape,c.output,c.size,λh x a=>?_,λh x=>?_,λh d x=>?_,λh G x a=>?_⟩,E⟩
 .cases a:e1 b with
  |some F=>rw[U.ma a]at r;obtain rfl:=Δ r;exact c.holds.cM b F a
  |none=>
   rw[U.oe a]at r;obtain⟨y,o⟩:=D b d r;refine o.kept c.le (c.block b o.lt y) λP S=>?_;rcases c.lY b P S with p|p|p
   .exact p
   .trivial
   .have:=o.lt;omega
 .exact c.block h x (by
   cases k:f h with
   |none=>rfl
   |some d=>rw[U.ma k]at a;cases a)
 .cases a:e1 h with
  |some d=>
   rcases c.dQ h (by simp[a])with p|p
   .left;cases k:f h with
    |none=>trivial
    |some d=>simp[U.ma k]
   .omega
  |none=>
   rw[U.oe a]at x;left;cases k:f h with
   |some d=>simp[U.ma k]
   |none=>rw[U.oe k];exact x
 .rcases c.lY h d x with p|p|p
  .exact .inl p
  .right;left;cases k:f h with
   |none=>trivial
   |some d=>simp[U.ma k]
  .omega
 .cases k:f h with
  |some d=>
   rw[U.ma k]at a;obtain rfl:=Δ a;obtain⟨y,o⟩:=c.iN h G x k;refine⟨y,?_⟩;rcases o with o|⟨T,o⟩
   .rw[U.oe o];left;exact(C h).resolve_left (by simp[k])
   .exact .inr ⟨T,U.ma o⟩
  |none=>rw[U.oe k]at a;refine⟨c.block h x k,.inr ⟨G,?_⟩⟩;rw[U.oe ((E h).resolve_right (by simp[a]))];exact a
def U.G8(a b:U):a.sub (a.join b):=λ_ _ c=>U.ma c
def hb.frame{z:Program}{C:FuncId}{D:Χ}{d b:U}{E F:R->U->Prop}(G:hb z C D d E (up F))(o:d.pt b):
  hb z C D (d.join b) (λc L=>∃a,E c a/\a.pt b/\L=a.join b) (up F):=
 λP S T V h=>(G P S T V (h.drop (U.G8 d b))).mono λ_ _ W=>by
  rcases W with⟨v,c,p,a,r,k,x,y⟩|⟨v,c,p,a,r,k,x,e,f,y⟩
  .exact .inl ⟨v,c,p,a.join b,r,(k.frame o h).1,x,a,y,(k.frame o h).2,rfl⟩
  .exact .inr ⟨v,c,p,a.join b,r,(k.frame o h).1,x,e,λg i j=>U.ma (f g i j),y⟩
theorem pv(a:World)(c:Obj)(b:Nat)(d:b≠a.heap.size):(a.alloc c).heap[b]?=a.heap[b]? :=by show(a.heap.push c)[b]?= _;grind
theorem U.aj(c:U)(a:Nat)(b:bl):(c.set a b) a=β b:=by simp[U.set]
theorem U.al(a:U)(b:bl)(c:e≠i):(a.set i b) e=a e:=by simp[U.set,c]
theorem U.hC(b:U)(a:Nat):(b.del a) a=none:=by simp[U.del]
theorem U.eg(a:U)(b:e≠i):(a.del i) e=a e:=by simp[U.del,b]
def bb.ext(c:bb)(d h:Nat)(k:Array Value):bb:=λb a=>if b=d/\a<h then k[a]? else c b a
theorem bb.og(d:bb)(a b:Nat)(c:Array Value)(h:e<b):(d.ext a b c) a e=c[e]? :=by simp[bb.ext,h]
theorem bb.oh(a:bb)(b c:Nat)(d:Array Value)(h:¬(e=b/\i<c)):(a.ext b c d) e i=a e i:=by simp[bb.ext,h]
theorem Step.write{T:Nat×Nat}(z:Holds t f l)(c o:Nat)(k:Array Value)(V:TypeId)(r:U)
  (W:h7.os=l.os) (e:h7.tape=l.tape) (x:(h7.output,h7.drawn)=(l.output,l.drawn)) (g:l.heap.size<=h7.heap.size)
  (i:h7.heap[c]?=β (.cells k V T)) (C:∀a,a<l.heap.size->a≠c->h7.heap[a]?=l.heap[a]?)
  (B:c=l.heap.size\/(f c≠ε/\∀D,f c≠β (.ro D)))
  (H:o<=k.size) (j:∀b v,t c b=β v->k[b]?=β v)
  (m:∀h b,h≠c->r h=β b->f h=β b)
  (n:∀b,r c=β b->kn (t.ext c o k) h7 c b):Step t f l (t.ext c o k) r h7:=by
 have E:t.le (t.ext c o k):=λa b v p=>by
  by_cases d:a=c/\b<o
  .obtain⟨rfl,q⟩:=d;rw[bb.og _ _ _ _ q];exact j b v p
  .rw[bb.oh _ _ _ _ d];exact p
 have F:∀a,a≠c->∀y,(t.ext c o k) a y=t a y:=λa d y=>bb.oh _ _ _ _ (λs=>d s.1);have x:h7.output=l.output/\l.drawn<=h7.drawn:=⟨congrArg Β x,a7h (congrArg Prod.snd x).symm⟩;refine⟨⟨λa b v p=>?_,λh b G=>?_⟩,E,W,e,x,g,λa d u=>?_,λa d=>?_,λa b d=>?_,λa D d u=>?_⟩
 .by_cases d:a=c
  .subst d;simp only[World.cell?,i,a4G,a3R,if_false];grind[bb.og,bb.oh]
  .rw[F a d]at p;have:=z.ro a b v p;have w:=z.lt p;rw[<-this];exact World.cell?_of_block (C a w d)
 .by_cases d:h=c
  .subst d;exact n b G
  .have L:=z.cM h b (m h b d G);exact L.kept E (C h L.lt d) (λy P=>by rw[F h d]at P;exact P)
 grind
 .by_cases S:a=c;grind
  .left;cases A:r a with
   |none=>trivial
   |some b=>simp_all
 grind
 .have S:a≠c:=by grind
  refine⟨C a d S,?_⟩;cases A:r a with
  |none=>simp
  |some b=>simp_all
def bb.pw(a:bb)(b:Nat)(c:Array Value):a.ext b 0 c=a:=by funext d h;simp[bb.ext]
def Step.new(d:Holds t f l)(a:Array Value)(b:TypeId)(c:Χ)(r:∀x∈c,x.one=η)(y:bn t a c):
  Step t f l t (f.set l.heap.size (.cells c)) (l.alloc (.cells a b)):=by
 have:=Step.write (h7:=l.alloc (.cells a b)) d l.heap.size 0 a b (f.set l.heap.size (.cells c)) rfl rfl rfl ρ (heap_alloc_new l _) (λz _ C=>pv l _ z C) (.inl rfl)
  (a3N _) (λh v k=>by rw[d.lZ]at k;cases k) (λE h D o=>by rw[U.al _ _ D]at o;exact o)
  (λh p=>by
   rw[U.aj]at p;obtain rfl:=Δ p;rw[bb.pw];exact⟨r,a,b,heap_alloc_new l _,y,d.lZ⟩)
 rwa[bb.pw]at this
def putAt(a:Χ)(b:Nat)(c:Χ):Χ:=a.take b++c++a.drop (b+α c)
theorem eh(a:Χ)(b:Nat)(c:Χ)(d:b+α c<=α a):(putAt a b c).length=α a:=by simp[putAt];omega
def cS(a:Array Value)(b:Nat)(c:List Value):Array Value:=(a.toList.take b++c++a.toList.drop (b+α c)).toArray
variable{j7:Array Value}
theorem bn.dG:bn t j7 g↔α j7.toList=α g/\∀(a:Nat)(d:Value)(b:R),j7.toList[a]?=β d->g[a]?=β b->aQ t d b:=by
 constructor
 .rintro⟨k,h⟩;refine⟨by trivial,λa d b p c=>?_⟩;have:=h a b c;simp_all
 .rintro⟨k,h⟩;refine⟨by trivial,λa b c=>?_⟩;have r:=(a2Z.1 c).1;have o:a<j7.size:=by simp at k;omega
  refine h a _ b ?_ c;simp[o]
theorem bn.putAt{a:bb}{h:Array Value}{b c:Χ}{k:Array Value}(o:bn a h b)(p:bn a k c)(d:Nat)(r:d+α c<=α b):
  bn a (cS h d k.toList) (putAt b d c):=by
 grind[bn.dG,cS,Go.bt.putAt,Γ,List.length_take,List.length_drop,List.append_assoc,List.getElem?_append_left]
theorem sC(c:∀a∈g,a.one=η)(d:∀a∈A,a.one=η)(b:Nat):∀a∈putAt g b A,a.one=true:=by grind[putAt,List.mem_of_mem_take,List.mem_of_mem_drop]
theorem bn.nd{k:bb}{c:Array Value}{a:Χ}(o:bn k c a)(p:∀r∈a,r.one=η):∀b∈c.toList,b.oneCell'=true:=by
 intro b x;obtain⟨d,y⟩:=a5B x;obtain⟨C,z⟩:=bn.dG.1 o;have h:d<α a:=by grind
 exact(z d b _ y (Ν h)).nd (p _ (a3r h))
def Step.store(k:Holds t f l)(o:f e=β (.cells g))(b:Nat)(c:Χ)(d:Array Value)(D:bn t d c)
  (E:∀F∈c,F.one=η) (G:b+α c<=α g):
  ∃a T,l.heap[e]?=β (.cells a T (0,0))/\a.size=α g/\Step t f l t (f.set e (.cells (putAt g b c))) (l.setRow e (cS a b d.toList)):=by
 obtain⟨L,a,T,h,p,r⟩:=k.cM e _ o;refine⟨a,T,h,p.1,?_⟩;have:=Step.write (h7:=l.setRow e (cS a b d.toList)) k e 0 (cS a b d.toList) T (f.set e (.cells (putAt g b c))) rfl rfl rfl ρ (setRow_heap l e a _ T _ h)
  (λP _ S=>setRow_other l e P _ S) (.inr (by simp[o])) (a3N _) (λx v y=>by rw[r]at y;cases y) (λW x V z=>by rw[U.al _ _ V]at z;exact z)
  (λx C=>by
   rw[U.aj]at C;obtain rfl:=Δ C;rw[bb.pw];exact⟨sC L E b,_,T,setRow_heap l e a _ T _ h,p.putAt D b G,r⟩)
 rwa[bb.pw]at this
def G9(a:Array Value)(b:Nat)(c:List Value)(d:b+α c<=a.size):(cS a b c).size=a.size:=by simp[cS];omega
def Step.Ga(o:Holds t f l)(p:f e=β (.eZ g))(b:Nat)(c:Χ)(d:Array Value)(r:bn t d c)
  (F:∀G∈c,G.one=η) (x:b+α c<=α g):
  ∃a T,l.heap[e]?=β (.cells a T (a.size,a.size+1))/\a.size=α g/\Step t f l t (f.set e (.eZ (putAt g b c))) (l.setRow e (cS a b d.toList)):=by
 obtain⟨L,a,T,h,k,y⟩:=o.cM e _ p;refine⟨a,T,h,k.1,?_⟩;have P:α d.toList=α c:=by have:=r.1;trivial
 have S:=G9 _ _ _ (by rw[P,k.1];exact x);have:=Step.write (h7:=l.setRow e (cS a b d.toList)) o e 0 (cS a b d.toList) T (f.set e (.eZ (putAt g b c))) rfl rfl rfl ρ (setRow_heap l e a _ T _ h)
  (λV _ W=>setRow_other l e V _ W) (.inr (by simp[p])) (a3N _) (λz v C=>by rw[y]at C;cases C) (λj z i D=>by rw[U.al _ _ i]at D;exact D)
  (λz E=>by
   rw[U.aj]at E;obtain rfl:=Δ E;rw[bb.pw];exact⟨sC L F b,_,T,by rw[S];exact setRow_heap l e a _ T _ h,k.putAt r b x,y⟩)
 rwa[bb.pw]at this
theorem Step.uU(k:Holds t f l)(b:f e=β (.cells g)\/(∃T,f e=β (.od T g))\/f e=β (.eZ g)):
  ∃C,Step t f l C (f.set e (.ro g)) l:=by
 obtain⟨o,p,a,T,z,c,r,x⟩:(f e≠ε/\∀g,f e≠β (.ro g))/\(∀D∈g,D.one=η)/\∃a T z,l.heap[e]?=β (.cells a T z)/\bn t a g/\∀d,t e d=none:=by
  rcases b with b|⟨T,b⟩|b
  .obtain⟨p,a,T,c,r,x⟩:=k.cM e _ b;simp_all
  .obtain⟨p,a,c,r,x⟩:=k.cM e _ b;simp_all
  .obtain⟨p,a,T,c,r,x⟩:=k.cM e _ b;simp_all
 refine⟨t.ext e a.size a,Step.write k e a.size a T _ rfl rfl rfl (a3w _) c (λ_ _ _=>rfl) (.inr o) (a3w _) (λd v y=>by rw[x]at y;cases y)
  (λG d E o=>by rw[U.al _ _ E]at o;exact o) (λd h=>?_)⟩
 rw[U.aj]at h;obtain rfl:=Δ h;have F:t.le (t.ext e a.size a):=λL d v y=>by
  rw[bb.oh _ _ _ _ (λc=>by simp_all)];exact y
 refine⟨p,a,T,z,c,r.mono F,λd h=>?_⟩;rw[bb.og _ _ _ _ h];simp[h]
def Step.freeze(a:Holds t f l)(b:f e=β (.cells g)):∃c,Step t f l c (f.set e (.ro g)) l:=Step.uU a (.inl b)
theorem bn.sub(c:bn t j7 g)(a b:Nat)(d:a+b<=α g):bn t (j7.extract a (a+b)) ((g.drop a).take b):=by grind[bn.dG,Ε,List.getElem?_take_of_lt,Array.getElem?_extract]
theorem Step.other(o:Holds t f l)(c:Nat)(ob:bl)
  (D:h7.os=l.os) (E:h7.tape=l.tape) (h:(h7.output,h7.drawn)=(l.output,l.drawn)) (F:l.heap.size<=h7.heap.size)
  (x:∀a,a<l.heap.size->a≠c->h7.heap[a]?=l.heap[a]?) (T:c=l.heap.size\/(f c≠ε/\∀y,f c≠β (.ro y))) (G:∀d,t c d=ε)
  (V:kn t h7 c ob):Step t f l t (f.set c ob) h7:=by
 have h:h7.output=l.output/\l.drawn<=h7.drawn:=⟨congrArg Β h,a7h (congrArg Prod.snd h).symm⟩;refine⟨⟨λa d v k=>?_,λp d r=>?_⟩,.refl t,D,E,h,F,λa b L=>?_,λa b=>?_,λa d b=>.inl b,λa y b L=>?_⟩
 .have b:a≠c:=by rintro rfl;rw[G]at k;cases k
  have P:=o.lt k;rw[<-o.ro a d v k];exact World.cell?_of_block (x a P b)
 .by_cases b:p=c
  .subst b;rw[U.aj]at r;simp_all
  .rw[U.al _ _ b]at r;have z:=o.cM p d r;exact z.kept (.refl t) (x p z.lt b) (λW S=>S)
 grind
 .by_cases C:a=c;grind
  .rw[U.al _ _ C]at b;exact .inl b
 .have C:a≠c:=by grind
  grind[U.al]
def Step.z7(b:Holds t f l)(c:Obj)(a:bl)(d:kn t (l.alloc c) l.heap.size a):Step t f l t (f.set l.heap.size a) (l.alloc c):=
 .other b _ a rfl rfl rfl ρ (λh _ k=>pv l _ h k) (.inl rfl) b.lZ d
theorem Holds.Gb(c:Holds t f l){b:Obj}(p:l.heap[e]?=β b)(r:∀d h k,b≠.cells d h k)(a:Nat):t e a=none:=by
 cases o:t e a with
 |none=>rfl
 |some v=>exfalso;have:=c.ro e a v o;grind[World.cell?,Option.some.inj]
def Step.z8(a:Holds t f l){b c:Obj}(d:f e≠ε/\∀h,f e≠β (.ro h))(k:l.heap[e]?=β b)(o:∀p r x,b≠.cells p r x)(y:kn t {l with heap:=l.heap.setIfInBounds e c} e X):
  Step t f l t (f.set e X) {l with heap:=l.heap.setIfInBounds e c}:=
 .other a e X rfl rfl rfl ρ (λC _ z=>a6c (Ζ z)) (.inr d) (a.Gb k o) y
theorem sD(y:Program)(d b:Nat)(r:TypeId)(k:Nat×Nat):∀(o:List Value)(a:Nat)(c:Array Value)(h:World),h.heap[d]?=β (.cells c r k)->(∀p,p<c.size->¬(k.1<=p/\p<k.2))->b+a+α o<=c.size->(∀v∈o,v.oneCell'=η)->
  (storeCells ⟨d,b,ε⟩ o a).run y h=.ok () (h.setRow d (c.toList.take (b+a)++o++c.toList.drop (b+a+α o)).toArray)
 |[],a,c,h,x,_,_,_=>by
  simp only[storeCells,a3Y,a3a,a4K,a3y,Array.toArray_toList];rw[setRow_self h d c r k x];rfl
 |v::rest,a,c,h,x,C,z,h1=>by
  have L:b+a<c.size:=by simp at z;omega
  have P:(⟨d,b,ε⟩:Addr).add a=⟨d,b+a,ε⟩:=by unfold Addr.add;simp
  have S:h.cell? ⟨d,b+a,ε⟩=β c[b+a]:=by simp[World.cell?,x]
  have T:h.frozen? ⟨d,b+a,ε⟩=false:=by grind[World.frozen?,Bool.and_eq_false_iff,decide_eq_false_iff_not]
  have D:(store ((⟨d,b,ε⟩:Addr).add a) v).run y h=.ok () (h.setRow d (c.setIfInBounds (b+a) v)):=by grind[run_store,setCell_eq_setRow]
  have ih:=sD y d b r k rest (a+1) (c.setIfInBounds (b+a) v) (h.setRow d (c.setIfInBounds (b+a) v)) (setRow_heap h d c _ r _ x) (λp E=>C p (by simpa using E)) (by simp at z|-;omega) (λF G=>h1 F (by simp[G]));simp only[storeCells,Sem.run_bind,D,Result.andThen_ok,ih,setRow_setRow];congr 3;have V:=list_seg_step c.toList (b+a) v rest (by simp at z|-;omega);grind
def uV(b:Nat):∀a,a<b->¬(((0,0):Nat×Nat).1<=a/\a<((0,0):Nat×Nat).2):=λa _=>by simp
section
structure Src(a:Program)(w:World)(k m:Nat)(x:Value)(b:List Value):Prop where
 len:(Builtin.lenOf x).run a w=.ok m w
 cells:(Builtin.firstCells k m x).run a w=.ok b.toArray w
 Gc:(Builtin.firstCells k m x).run a w.drew=.ok b.toArray w.drew
 size:α b=m*k
def za(b:World)(z C S D:TypeId)(c:TypeInfo)(T:m.underlying z=β (.slice D))(p:TypeDesc)(V:m.underlying C=β p)(W:(∃E,p=.slice E)\/p=.string)
  (e:m.info? D=β c) (d a r:Nat) (k:Array Value) (F:TypeId) (o:Nat×Nat) (f:b.heap[d]?=β (.cells k F o)) (g:∀x,x<k.size->¬(o.1<=x/\x<o.2))
  (y:Nat) (G:Value) (h:List Value) (L:Src m b c.size y G h) (i:∀j∈h,j.oneCell'=η) (l:a+y<=r) (t:a*c.size+α h<=k.size):
  (Builtin.append_ #[z,C] S #[.slice (β ⟨d,0,ε⟩) a r,G]).run m b=.ok (.slice (β ⟨d,0,ε⟩) (a+y) r) (b.setRow d (cS k (a*c.size) h)):=by
 have P:=sD m d (a*c.size) F o h 0 k b f g (by trivial) i;simp only[a4K]at P;have n:(storeCells ⟨d,a*c.size,ε⟩ h).run m b=.ok () (b.setRow d (cS k (a*c.size) h)):=by rw[P];rfl
 have q:=λs=>run_underlying V s;rcases W with⟨E,rfl⟩|rfl<;>simp[Builtin.append_,run_underlying T,q,sizeOf,typeInfo,e,L.len,l,L.cells,Addr.add_lit,n]
def Gd(b:World)(C D T E:TypeId)(c:TypeInfo)(V:m.underlying C=β (.slice E))(r:TypeDesc)(W:m.underlying D=β r)(e:(∃F,r=.slice F)\/r=.string)
  (f:m.info? E=β c) (d h a x:Nat) (o:Array Value) (G:TypeId) (p:Nat×Nat) (g:b.heap[d]?=β (.cells o G p)) (i:∀y,y<o.size->¬(p.1<=y/\y<p.2))
  (z:Nat) (L:Value) (k:List Value) (P:Src m b c.size z L k) (j:∀l∈k,l.oneCell'=η) (n:a+z<=x) (u:h+a*c.size+α k<=o.size):
  (Builtin.append_ #[C,D] T #[.slice (β ⟨d,h,ε⟩) a x,L]).run m b=.ok (.slice (β ⟨d,h,ε⟩) (a+z) x) (b.setRow d (cS o (h+a*c.size) k)):=by
 have S:=sD m d (h+a*c.size) G p k 0 o b g i (by trivial) j;simp only[a4K]at S;have q:(storeCells ⟨d,h+a*c.size,ε⟩ k).run m b=.ok () (b.setRow d (cS o (h+a*c.size) k)):=by rw[S];rfl
 have s:=λt=>run_underlying W t;rcases e with⟨F,rfl⟩|rfl<;>simp[Builtin.append_,run_underlying V,s,sizeOf,typeInfo,f,P.len,n,P.cells,Addr.add_mid,q]
theorem px(c:World)(r x G k:TypeId)(d:TypeInfo)(y:Value)(L:m.underlying r=β (.slice k))(o:TypeDesc)(P:m.underlying x=β o)(S:(∃z,o=.slice z)\/o=.string)
  (T:m.info? k=β d) (V:d.zero=β y) (C:Option Addr) (a h:Nat) (p:List Value) (q:α p=a*d.size)
  (W:(Builtin.firstCells d.size a (.slice C a h)).run m c.drew=.ok p.toArray c.drew)
  (b:Nat) (D:Value) (E:List Value) (F:Src m c d.size b D E) (e:h<a+b) (s:((a+b:Nat):Int)<=9223372036854775807) (f:(a+b)*d.bytes<=140737488355328):
  (Builtin.append_ #[r,x] G #[.slice C a h,D]).run m c=
   .ok (.slice (β ⟨c.heap.size,0,ε⟩) (a+b) (grownCap c (a+b) h k))
    (c.drew.alloc (.cells (p.toArray++E.toArray++Builtin.zeroCells y.cells (grownCap c (a+b) h k -(a+b))) k)):=by
 have g:¬(a+b<=h):=δ;have i:¬(9223372036854775807<((a)+(b:Int))):=δ;have j:¬(281474976710656<Builtin.nextslicecap (a+b) h*d.bytes):=by have:=growslice_fits e f;omega
 have l:=λn=>run_underlying P n;rcases S with⟨z,rfl⟩|rfl
 all_goals
  simp[Builtin.append_,run_underlying L,l,sizeOf,typeInfo,zeroValue,T,V,F.len,g,i,j,Question.forced,F.Gc,W,newRow,grownCap];grind
end
abbrev Fr:=Nat->R
def lj(b:Fr)(c:Nat)(d:R):Fr:=λa=>if a=c then d else b a
def cY(b:Fr)(a:Option Nat)(c:R):Fr:=
 match a with
 |some a=>lj b a c
 |none=>b
def cv:Value->R
 |.slice ε 0 0=>.J [] .nil
 |a=>.v a
def ofConst:Value->R
 |.agg cs=>.agg (cs.toList.map cv)
 |.tuple cs=>.aF (cs.toList.map cv)
 |a=>cv a
def qO:Value->Bool
 |.agg cs=>cs.toList.all (·.oneCell')
 |.tuple cs=>cs.toList.all (·.oneCell')
 |a=>a.oneCell'
def aJ:Operand->Bool
 |.const v=>qO v
 |_=>η
def ah(a:Fr):Operand->R
 |.tmp b=>a b
 |.const v=>ofConst v
 |.global c=>.ptr c 0
 |.func d=>.bA d [] []
theorem aQ.cv(b:bb)(a:Value)(c:a.oneCell'=η):aQ b a (cv a):=by
 unfold Go.bt.cv;split
 .exact .cX _ _ _ (λ_=>rfl) rfl
 .exact .v a c
def ng(a:Value):(cv a).one=true:=by unfold cv;split<;>rfl
def bn.om(c:bb)(b:Array Value)(k:∀a∈b.toList,a.oneCell'=η):bn c b (b.toList.map Go.bt.cv):=by
 refine bn.dG.2 ⟨ρ,λp a o d h=>?_⟩;rw[a3u,d]at h;obtain rfl:cv a=o:=by simpa using h
 exact aQ.cv c a (k a (a3d d))
def aQ.ofConst(d:bb)(a:Value)(c:qO a=η):aQ d a (ofConst a):=by
 cases a<;>first
  |exact aQ.cv d _ c
  |skip
 case agg b=>
  have h:∀a∈b.toList,a.oneCell'=true:=by simp only[qO,a3h]at c;exact c
  obtain⟨k,o⟩:=bn.om d b h;refine .agg b _ (λr p=>?_) k o;obtain⟨a,_,rfl⟩:=a3m.1 p;exact ng a
 case tuple b=>
  have h:∀a∈b.toList,a.oneCell'=true:=by simp only[qO,a3h]at c;exact c
  obtain⟨k,o⟩:=bn.om d b h;exact .aF b _ k o
def bE(b:bb)(c:Act)(d:Fr):Prop:=∀a,aQ b (c.tmps.getD a undef) (d a)
def bE.ah{c:bb}{d:Act}{h:Fr}(a:bE c d h)(b:Operand)(k:aJ b=η):aQ c (d.eval b) (ah h b):=by
 cases b with
 |tmp o=>exact a o
 |const v=>exact aQ.ofConst c v k
 |global p=>exact .ptr p 0
 |func r=>exact .bA r #[] #[] [] [] rfl (λx y a=>by simp at a) rfl (λx y a=>by simp at a)
def bE.mono{b c:bb}{a:Act}{d:Fr}(h:bE b a d)(k:b.le c):bE c a d:=λo=>(h o).mono k
theorem bE.put{d:bb}{a:Act}{h:Fr}(k:bE d a h)(b:Option Nat)(r:∀c,b=β c->c<a.tmps.size){v:Value}{o:R}(x:aQ d v o):bE d (a.put b v) (cY h b o):=by
 cases b with
 |none=>exact k
 |some b=>
  intro c;have y:=r b rfl;by_cases p:c=b;simp_all [cY,lj,Act.put]
  .simp only[cY,lj,if_neg p,Act.put];rw[a3J,a6c (Ζ p),<-a3J];exact k c
def aP(b:Bool)(c:Nat)(a:Χ):R:=if b then .agg (a.take c)else a.headD (.aF [])
def U.read(a:U)(l:Nat):Option Χ:=
 match a l with
 |some (.cells cs)=>β cs
 |some (.ro cs)=>β cs
 |some (.od _ cs)=>β cs
 |some (.eZ cs)=>β cs
 |_=>ε
def ez(a b:Nat)(c:Χ):Χ:=if a=1 then c.take b else(ψ b).map λd=>.agg ((c.drop (d*a)).take a)
def iO(d:BinOp)(a:IntKind)(c b:Int):Option Value:=
 match d with
 |.add=>β (.int a (a.wrap (c+b)))
 |.sub=>β (.int a (a.wrap (c - b)))
 |.mul=>β (.int a (a.wrap (c*b)))
 |.quo=>if b=0 then ε else β (.int a (a.wrap (c.tdiv b)))
 |.rem=>if b=0 then ε else β (.int a (c.tmod b))
 |.and=>β (.int a (a.wrap (π a.bits c&&&π a.bits b).toNat))
 |.or=>β (.int a (a.wrap (π a.bits c|||π a.bits b).toNat))
 |.xor=>β (.int a (a.wrap (π a.bits c^^^π a.bits b).toNat))
 |.andNot=>β (.int a (a.wrap (π a.bits c&&& ~~~(π a.bits b)).toNat))
 |.eql=>β (.bool (decide (c=b)))
 |.neq=>β (.bool (decide (c≠b)))
 |.lss=>β (.bool (decide (c<b)))
 |.leq=>β (.bool (decide (c<=b)))
 |.gtr=>β (.bool (decide (b<c)))
 |.geq=>β (.bool (decide (b<=c)))
 |_=>ε
def nh(d:BinOp)(a:IntKind)(c b:Int):Option Value:=
 if b<0 then ε else
 match d with
 |.shl=>β (.int a (a.wrap (c*2^(min b.toNat a.bits))))
 |.shr=>β (.int a (c.fdiv (2^(min b.toNat a.bits))))
 |_=>ε
def fE:BinOp->Bool
 |.shl|.shr=>η
 |_=>ι
def py(c:BinOp)(a b:ByteArray):Option Value:=
 match c with
 |.add=>if a.size+b.size<=9223372036854775807 then β (.string (a++b))else ε
 |.eql=>β (.bool (a.toList==b.toList))
 |.neq=>β (.bool (!(a.toList==b.toList)))
 |.lss=>β (.bool (Op.bytesLess a.toList b.toList))
 |.leq=>β (.bool (Op.bytesLess a.toList b.toList||a.toList==b.toList))
 |.gtr=>β (.bool (!(Op.bytesLess a.toList b.toList||a.toList==b.toList)))
 |.geq=>β (.bool (!(Op.bytesLess a.toList b.toList)))
 |_=>ε
def br(a:BinOp):Value->Value->Option Value
 |.int b c,.int h d=>if fE a then nh a b c d else if b=h then iO a b c d else ε
 |.string k,.string o=>py a k o
 |_,_=>ε
def ni(b:UnOp):Value->Option Value
 |.bool d=>match b with|.not=>β (.bool !d)|_=>ε
 |.int a c=>match b with
  |.neg=>β (.int a (a.wrap (0 - c)))
  |.xor=>β (.int a (a.wrap (π a.bits (if a.signed then -1 else a.max)^^^π a.bits c).toNat))
  |_=>ε
 |_=>ε
noncomputable def peq (a b:R):Bool:=@decide (a=b) (Classical.propDecidable _)
def pz(a b:R):peq a b=η↔a=b:=by simp[peq]
def Ge(a:R):peq a a=true:=by simp[peq]
inductive bZ where
 |int (k:IntKind)
 |bool
 |str
 deriving DecidableEq
def bZ.fit:bZ->Value->Prop
 |.int a,.int b _=>a=b
 |.bool,.bool _=>True
 |.str,.string _=>True
 |_,_=>False
def bZ.sE:bZ->R->Prop
 |.int a,.v (.int b _)=>a=b
 |.bool,.v (.bool _)=>True
 |.str,.v (.string _)=>True
 |_,_=>False
def db:List (Nat×bZ)->Χ->Prop
 |[],cs=>cs=[]
 |(a,b)::c,cs=>a<=α cs/\(∀d∈cs.take a,b.sE d)/\db c (cs.drop a)
noncomputable def dw:List (R×R×Nat)->R->Nat->Option (Nat×R)
 |[],_,_=>ε
 |a::us,b,c=>if peq b a.1 then β (c,a.2.1)else dw us b (c+1)
noncomputable def ko (a:List (R×R×Nat)) (c v:R) (b:Nat):List (R×R×Nat)×Nat:=
 match dw a c 0 with
 |some (h,_)=>(a.modify h λd=>(d.1,v,d.2.2),b)
 |none=>(a++[(c,v,b)],b+1)
def Gf(a:List (R×R×Nat))(b:Int):Option Nat:=a.findIdx? λc=>(c.2.2:Int)==b
def qP(b:List (Nat×bZ))(c:List (R×R×Nat)):Prop:=∀d∈c,∃a,d.1=.agg a/\db b a
inductive c4 where
 |eA (x:Operand)
 |pick (c a b:Operand)
 |alloc (T:TypeId) (zero:Χ)
 |box (T:TypeId) (x:Operand)
 |kp (T:TypeId) (x:Operand)
 |load (agg:Bool) (n:Nat) (x:Operand)
 |store (n:Nat) (x y:Operand)
 |pA (x:Operand)
 |kq (off:Nat) (x:Operand)
 |pB (k len:Nat) (x i:Operand)
 |dB (k:Nat) (x i:Operand)
 |oo (agg:Bool) (k len:Nat) (x i:Operand)
 |lk (x i:Operand)
 |ll (zero:Χ) (parts:List (Nat×Nat×Operand))
 |jv (k:Nat) (xs:List Operand)
 |oq (k:Nat) (x:Operand) (aT aS:Option Operand)
 |kr (k n:Nat) (x:Operand) (aT aS:Option Operand) (ro:Bool)
 |jw (k n:Nat) (x:Operand) (aT aS:Option Operand)
 |len (x:Operand)
 |pC (x:Operand)
 |nj (x:Operand)
 |ot (agg:Bool) (off n:Nat) (x:Operand)
 |bin (op:BinOp) (x y:Operand)
 |eqv (neg:Bool) (bw:List (Nat×bZ)) (x y:Operand)
 |pD (neg:Bool) (x y:Operand)
 |ln (neg:Bool) (x y:Operand)
 |un (op:UnOp) (x:Operand)
 |ib (k:IntKind) (x:Operand)
 |app (k bytes:Nat) (x y:Operand)
 |fv (fn:FuncId) (args:List Operand)
 |ext (x:Operand) (i:Nat)
 |lo (d:Bool) (k:IntKind) (x y:Operand)
 |pE (x:Operand)
 |jx (k bytes:Nat) (z:Χ) (x y:Operand)
 |mb (k:Nat) (x y:Operand)
 |mc (neg:Bool) (x:Operand)
 |jy (k:Nat) (xs:List Operand)
 |lp (k bytes:Nat) (x y:Operand)
 |ou (x:Operand)
 |bA (fn:FuncId) (first cap:List Operand)
 |ic (x:Operand) (args:List Operand)
 |pF (t:TypeId) (x:Operand)
 |me (x:Operand)
 |jz (x:Operand)
 |mf (x:Operand)
 |jE
 |jG (ok:Bool) (rs:List (Nat×bZ)) (z:R) (x k:Operand)
 |ks (rs:List (Nat×bZ)) (x k v:Operand)
 |mg (x:Operand)
 |lq (k:Nat) (x:Operand) (aT aS d:Option Operand)
 |mh (k:Nat) (z:Χ) (x:Operand)
 |mi (k:Nat) (x y:Operand)
 |mj (k bytes:Nat) (z:Χ) (x y:Operand)
 |ml (x y:Operand)
def fa(a:Program)(b:FuncId):Bool:=
 match a.funcs[b]? with
 |some fn=>fn.body.isSome&&fn.name != "runtime.NumGoroutine"
 |none=>ι
structure Ctx where
 p:Program
 k:R->U->Prop
@[reducible] def Ctx.of(a:Program):Ctx:=⟨a,λ_ _=>False⟩
def jH(a:Fr)(b:Χ):List (Nat×Nat×Operand)->(Χ->Prop)->Prop
 |[],c=>c b
 |(off,cn,d)::h,c=>(ah a d).cells.length=cn/\off+cn<=α b/\jH a (putAt b off (ah a d).cells) h c
def ao(a:UInt8):R:=.v (.int .u8 a.toNat)
def byteOf:R->Option UInt8
 |.v (.int .u8 a)=>if 0<=a/\a<256 then β (ς a.toNat)else ε
 |_=>ε
def bytesOf:Χ->Option Τ
 |[]=>β []
 |a::b=>match byteOf a,bytesOf b with
  |some c,β aX=>β (c::aX)
  |_,_=>ε
def Gg(a:UInt8):byteOf (ao a)=β a:=by have c:=a.toNat_lt;have b:(0)<=(a.toNat:Int)/\(a.toNat:Int)<256:=δ;simp[byteOf,ao,b]
def qQ:∀a:Τ,bytesOf (a.map ao)=β a
 |[]=>rfl
 |b::a=>by simp[bytesOf,Gg,qQ a]
def dg(b:Fr)(a:Option Operand)(c:Nat):Option Int:=
 match a with
 |none=>β c
 |some a=>match ah b a with
  |.v (.int _ d)=>β d
  |_=>ε
def uW(a:Own)(b c:Option Operand):Own:=
 match b,c with
 |none,ε=>a
 |_,_=>.any
def qR(k:Bool)(c a d h b:Nat):R:=if k=η then .bB c (a*b) (d - a) (h - a) b else .aq c d h b
def c8(k:U)(a:Nat)(o:R):Option (Nat×Χ):=
 match o with
 |.J c _=>if c.all (λp=>decide (α p.cells=a))=η then β (α c,flat c)else ε
 |.aq d b _ h=>match k.read d with
  |some cs=>if h=a/\b*a<=α cs then β (b,cs.take (b*a))else ε
  |none=>ε
 |.bB d off b _ h=>match k.read d with
  |some cs=>if h=a/\off+b*a<=α cs then β (b,(cs.drop off).take (b*a))else ε
  |none=>ε
 |_=>ε
def mm(d:U)(b:Nat)(a:R):Option (Nat×Χ):=
 match a with
 |.v (.string c)=>if b=1 then β (c.size,c.data.toList.map ao)else ε
 |a=>c8 d b a
def uX{a:Nat×Χ}(b:c8 f e q=β a):mm f e q=β a:=by
 unfold mm;split
 .trivial
 .exact b
def hD(a:U)(b:Nat):Bool:=
 match a b with
 |some (.cells _)=>η
 |some (.od _ _)=>η
 |_=>ι
def qS:R->Option R
 |.aq _ _ cap _=>β (.v (.int .i64 cap))
 |.J [] .nil=>β (.v (.int .i64 0))
 |_=>ε
def qT(c:Fr)(h:Nat)(y:R)(k o p:Option Operand):Option R:=
 match y with
 |.aq r len cap x=>match dg c k 0,dg c o len,dg c p cap with
  |some a,β d,β b=>if x=h/\0<=a/\a<=d/\d<=b/\b<=cap then
    β (if k.isSome=η then(if a<b then .bB r (a.toNat*h) (d.toNat - a.toNat) (b.toNat - a.toNat) h else .J [] .zero)else .aq r d.toNat b.toNat h)
   else ε
  |_,_,_=>ε
 |.bB r off len cap x=>match dg c k 0,dg c o len,dg c p cap with
  |some a,β d,β b=>if x=h/\0<=a/\a<=d/\d<=b/\b<=cap then
    β (if a<b then .bB r (off+a.toNat*h) (d.toNat - a.toNat) (b.toNat - a.toNat) h else .J [] .zero)
   else ε
  |_,_,_=>ε
 |.J [] .nil=>match dg c k 0,dg c o 0,dg c p 0 with
  |some a,β d,β b=>if a=0/\d=0/\b=0 then β (.J [] .nil)else ε
  |_,_,_=>ε
 |.J [] .zero=>match dg c k 0,dg c o 0,dg c p 0 with
  |some a,β d,β b=>if a=0/\d=0/\b=0 then β (.J [] .zero)else ε
  |_,_,_=>ε
 |_=>ε
def kt(b:Nat)(h:Χ)(k:R)(a:U):Option U:=
 match k with
 |.bB c off d _ o=>match a c with
  |some (.cells cs)=>if o=b/\off+d*b<=α cs then β (a.set c (.cells (putAt cs off (ζ d h).flatten)))else ε
  |_=>ε
 |.J [] _=>β a
 |_=>ε
def lr(a:Nat)(p r:R)(c:U):Option (R×U):=
 match c8 c a r with
 |some (k,o)=>match p with
  |.bB d off b _ h=>match c d with
   |some (.cells cs)=>if h=a/\off+b*a<=α cs then β (.v (.int .i64 (min k b:Nat)),c.set d (.cells (putAt cs off (o.take (b*a)))))else ε
   |_=>ε
  |.aq d b _ h=>match c d with
   |some (.cells cs)=>if h=a/\b*a<=α cs then β (.v (.int .i64 (min k b:Nat)),c.set d (.cells (putAt cs 0 (o.take (b*a)))))else ε
   |_=>ε
  |.J [] _=>β (.v (.int .i64 0),c)
  |_=>ε
 |none=>ε
def cG:R->Option Nat
 |.aq a _ _ _=>β a
 |.bB a _ _ _ _=>β a
 |_=>ε
def jI(a:U)(b:Nat):Bool:=
 match a b with
 |some (.cells (_:: _))=>η
 |_=>ι
def ku(d h:R)(a:U):Option R:=
 match cG d,cG h with
 |some b,β c=>if b≠c/\jI a b=η/\jI a c=η then β (.v (.bool ι))else ε
 |_,_=>ε
def G(i:Ctx)(j:c4)(d:Fr)(a:U)(k:R->U->Prop):Prop:=
  match j with
  |.eA h=>k (ah d h) a
  |.pick m y z=>match ah d m with
    |.v (.bool P)=>k (if P then ah d y else ah d z) a
    |_=>False
  |.alloc _ zero=>∀o,a o=ε->k (.ptr o 0) (a.set o (.cells zero))
  |.box _ h=>0<(ah d h).cells.length/\∀o,a o=ε->k (.ptr o 0) (a.set o (.cells (ah d h).cells))
  |.kp _ h=>0<(ah d h).cells.length/\∀o,a o=ε->k (.ptr o 0) (a.set o (.ro (ah d h).cells))
  |.load agg b h=>match ah d h with
    |.ptr o off=>match a.read o with
      |some p=>off+b<=α p/\k (aP agg b (p.drop off)) a
      |none=>False
    |.bR p=>b<=α p/\k (aP agg b p) a
    |_=>False
  |.store b h C=>match ah d h with
    |.ptr o off=>match a o with
      |some (.cells p)=>(ah d C).cells.length=b/\off+b<=α p/\k (.aF []) (a.set o (.cells (putAt p off (ah d C).cells)))
      |_=>False
    |_=>False
  |.pA h=>match ah d h with
    |.ptr o off=>k (.ptr o off) a
    |.bR p=>k (.bR p) a
    |.bA b cF p=>k (.bA b cF p) a
    |_=>False
  |.kq off h=>match ah d h with
    |.ptr o S=>k (.ptr o (S+off)) a
    |.bR p=>k (.bR (p.drop off)) a
    |_=>False
  |.pB c len h e=>match ah d h,ah d e with
    |.ptr o S,.v (.int _ b)=>0<=b/\b<len/\k (.ptr o (S+b.toNat*c)) a
    |.bR p,.v (.int _ b)=>0<=b/\b<len/\k (.bR (p.drop (b.toNat*c))) a
    |_,_=>False
  |.dB c h e=>match ah d h,ah d e with
    |.J xs _,.v (.int _ b)=>0<=b/\match xs[b.toNat]? with
      |some V=>α V.cells=c/\k (.bR V.cells) a
      |none=>False
    |.bB o off len _ L,.v (.int _ b)=>L=c/\0<=b/\b<len/\k (.ptr o (off+b.toNat*c)) a
    |.aq o len _ L,.v (.int _ b)=>L=c/\0<=b/\b<len/\k (.ptr o (b.toNat*c)) a
    |_,_=>False
  |.oo agg c len h e=>match ah d h,ah d e with
    |.agg p,.v (.int _ b)=>0<=b/\b<len/\b.toNat*c+c<=α p/\k (aP agg c (p.drop (b.toNat*c))) a
    |_,_=>False
  |.lk h e=>match ah d h,ah d e with
    |.v (.string P),.v (.int _ b)=>0<=b/\match P.data[b.toNat]? with
      |some z=>k (.v (.int .u8 z.toNat)) a
      |none=>False
    |_,_=>False
  |.ll zero parts=>jH d zero parts λp=>k (.agg p) a
  |.jv c xs=>(∀V∈xs.map (ah d),α V.cells=c)/\
      (if α xs=0 then k (.J [] .zero) a else∀x,a x=ε->k (.J (xs.map (ah d)) (.buf x (α xs))) (a.set x (.buf c (α xs) (α xs))))
  |.oq c h aT aS=>match ah d h with
    |.J xs S=>match dg d aT 0,dg d aS (α xs) with
      |some y,β z=>0<=y/\y<=z/\z<=α xs/\(∀V∈xs,α V.cells=c)/\k (.J ((xs.take z.toNat).drop y.toNat) (uW S aT aS)) a
      |_,_=>False
    |.bB o off len D L=>match dg d aT 0,dg d aS len with
      |some y,β z=>L=c/\0<=y/\y<=z/\z<=len/\y<len/\k (.bB o (off+y.toNat*c) (z.toNat - y.toNat) (D - y.toNat) c) a
      |_,_=>False
    |.aq o len D L=>match dg d aT 0,dg d aS len with
      |some y,β z=>L=c/\0<=y/\y<=z/\z<=len/\(aT.isSome=η->y<len)/\k (qR aT.isSome o y.toNat z.toNat D c) a
      |_,_=>False
    |_=>False
  |.kr c b h aT aS ro=>match ah d h with
    |.ptr o off=>match dg d aT 0,dg d aS b with
      |some y,β z=>0<=y/\y<=z/\z<=b/\match a.read o with
        |some p=>off+b*c<=α p/\
          (if ro then k (.J (ez c (z.toNat - y.toNat) (p.drop (off+y.toNat*c))) .any) (a.set o (.ro p))else y<b/\k (.bB o (off+y.toNat*c) (z.toNat - y.toNat) (b - y.toNat) c) a)
        |none=>False
      |_,_=>False
    |_=>False
  |.jw c b h aT aS=>match ah d h with
    |.ptr o off=>match dg d aT 0,dg d aS b with
      |some y,β z=>0<=y/\y<=z/\z<=b/\match a o with
        |some (.ro p)=>off+b*c<=α p/\k (.J (ez c (z.toNat - y.toNat) (p.drop (off+y.toNat*c))) .any) a
        |_=>False
      |_,_=>False
    |_=>False
  |.len h=>match ah d h with
    |.J xs _=>k (.v (.int .i64 (α xs))) a
    |.bB _ _ b _ _=>k (.v (.int .i64 b)) a
    |.aq _ b _ _=>k (.v (.int .i64 b)) a
    |_=>False
  |.pC h=>match ah d h with
    |.v (.string P)=>k (.v (.int .i64 P.size)) a
    |_=>False
  |.nj h=>match ah d h with
    |.ey o=>match a o with
      |some (.mp us _)=>k (.v (.int .i64 (α us))) a
      |_=>False
    |_=>False
  |.ot agg off b h=>match ah d h with
    |.agg p=>off+b<=α p/\k (aP agg b (p.drop off)) a
    |_=>False
  |.bin j h C=>match ah d h,ah d C with
    |.v y,.v z=>match br j y z with
      |some W=>k (.v W) a
      |none=>False
    |_,_=>False
  |.eqv neg bw h C=>match ah d h,ah d C with
    |.agg p,.agg cF=>db bw p/\db bw cF/\k (.v (.bool (xor neg (peq (.agg p) (.agg cF))))) a
    |_,_=>False
  |.pD neg h C=>match ah d h,ah d C with
    |.ptr _ _,.v (.pointer ε)=>k (.v (.bool neg)) a
    |.bR _,.v (.pointer ε)=>k (.v (.bool neg)) a
    |.v (.pointer ε),.v (.pointer ε)=>k (.v (.bool (!neg))) a
    |_,_=>False
  |.ln neg h C=>match ah d h,ah d C with
    |.ptr _ _,.v (.pointer ε)=>k (.v (.bool neg)) a
    |.v (.pointer ε),.ptr _ _=>k (.v (.bool neg)) a
    |.v (.pointer ε),.v (.pointer ε)=>k (.v (.bool (!neg))) a
    |.ptr o S,.ptr s t=>(hD a o=η/\hD a s=η)/\k (.v (.bool (xor neg (decide (o=s/\S=t))))) a
    |_,_=>False
  |.un j h=>match ah d h with
    |.v y=>match ni j y with
      |some W=>k (.v W) a
      |none=>False
    |_=>False
  |.ib c h=>match ah d h with
    |.v (.int _ b)=>k (.v (.int c (c.wrap b))) a
    |_=>False
  |.app c bytes h C=>match ah d h,ah d C with
    |.J xs S,.J E _=>(∀V∈xs,α V.cells=c)/\(∀V∈E,α V.cells=c)/\(α xs+α E)*bytes<=140737488355328/\α xs+α E<=9223372036854775807/\
      match S with
      |.buf x m=>a x=β (.buf c (α xs) m)/\∀g l,(g=x\/a g=ε)->k (.J (xs++E) (.buf g l)) ((a.del x).set g (.buf c (α xs+α E) l))
      |.any=>False
      |_=>xs=[]/\(if E=[]then k (.J [] S) a else∀g l,a g=ε->k (.J E (.buf g l)) (a.set g (.buf c (α E) l)))
    |_,_=>False
  |.fv fn args=>hb i.p fn (args.map (ah d)) a k (up i.k)
  |.ext h e=>match ah d h with
    |.aF u=>match u[e]? with
      |some W=>k W a
      |none=>False
    |_=>False
  |.lo n _ h C=>match ah d h,ah d C with
    |.v (.int c y),.v (.int L z)=>c=L/\k (.v (.int c (if n then max y z else min y z))) a
    |_,_=>False
  |.pE h=>match ah d h with
    |.J xs _=>match bytesOf xs with
      |some o=>k (.v (.string ⟨o.toArray⟩)) a
      |none=>False
    |_=>False
  |.jx c bytes f h C=>match ah d h,ah d C with
    |.v (.int _ b),.v (.int _ r)=>b=r/\0<=b/\b<=9223372036854775807/\b*bytes<=281474976710656/\∀x,a x=ε->k (.aq x b.toNat b.toNat c) (a.set x (.cells (ζ b.toNat f).flatten))
    |_,_=>False
  |.mb c h C=>match ah d h,ah d C with
    |.bB o off b _ L,.J E _=>L=c/\(∀V∈E,α V.cells=c)/\match a o with
      |some (.cells p)=>off+b*c<=α p/\k (.v (.int .i64 (min (α E) b))) (a.set o (.cells (putAt p off (flat (E.take b)))))
      |_=>False
    |.aq o b _ L,.J E _=>L=c/\(∀V∈E,α V.cells=c)/\match a o with
      |some (.cells p)=>b*c<=α p/\k (.v (.int .i64 (min (α E) b))) (a.set o (.cells (putAt p 0 (flat (E.take b)))))
      |_=>False
    |_,_=>False
  |.jy c xs=>(∀V∈xs.map (ah d),α V.cells=c)/\
      (if α xs=0 then k (.J [] .zero) a else∀x,a x=ε->k (.aq x (α xs) (α xs) c) (a.set x (.cells (flat (xs.map (ah d))))))
  |.lp c bytes h C=>match mm a c (ah d C)with
    |some (r,E)=>match ah d h with
      |.J xs S=>xs=[]/\(S=.nil\/S=.zero)/\r*bytes<=140737488355328/\r<=9223372036854775807/\
        (if r=0 then k (.J [] S) a else∀x D T,a x=ε->r<=D->D<=maxLen->α T=(D - r)*c->k (.aq x r D c) (a.set x (.cells (E++T))))
      |.aq o b D L=>match a o with
        |some (.cells p)=>L=c/\α p=D*c/\(b+r)*bytes<=140737488355328/\b+r<=9223372036854775807/\
          (if b+r<=D then k (.aq o (b+r) D c) (a.set o (.cells (putAt p (b*c) E)))
           else∀x F T,a x=ε->b+r<=F->F<=maxLen->α T=(F -(b+r))*c->k (.aq x (b+r) F c) (a.set x (.cells (p.take (b*c)++E++T))))
        |some (.eZ p)=>L=c/\α p=D*c/\(b+r)*bytes<=140737488355328/\b+r<=9223372036854775807/\
          (if b+r<=D then k (.aq o (b+r) D c) (a.set o (.eZ (putAt p (b*c) E)))
           else∀x F T,a x=ε->b+r<=F->F<=maxLen->α T=(F -(b+r))*c->k (.aq x (b+r) F c) (a.set x (.cells (p.take (b*c)++E++T))))
        |_=>False
      |.bB o off b D L=>match a o with
        |some (.cells p)=>L=c/\off+D*c<=α p/\(b+r)*bytes<=140737488355328/\b+r<=9223372036854775807/\
          (if b+r<=D then k (.bB o off (b+r) D c) (a.set o (.cells (putAt p (off+b*c) E)))
           else∀x F T,a x=ε->b+r<=F->F<=maxLen->α T=(F -(b+r))*c->k (.aq x (b+r) F c) (a.set x (.cells ((p.drop off).take (b*c)++E++T))))
        |_=>False
      |_=>False
    |none=>False
  |.ou h=>match ah d h with
    |.v (.string P)=>k (.J (P.data.toList.map ao) .any) a
    |_=>False
  |.bA fn first D=>k (.bA fn (first.map (ah d)) (D.map (ah d))) a
  |.ic h args=>match ah d h with
    |.bA fn cF p=>fa i.p fn=η/\hb i.p fn (cF++args.map (ah d)++p) a k (up i.k)
    |_=>False
  |.pF P h=>k (.iface P (ah d h)) a
  |.me h=>match ah d h with
    |.iface P C=>up i.k (.iface P C) a
    |_=>False
  |.jz h=>match ah d h with
    |.v (.string P)=>∀o,a o=ε->k (.ptr o 0) (a.set o (.it P 0))
    |_=>False
  |.mf h=>match ah d h with
    |.ptr o off=>off=0/\match a o with
      |some (.it P pos)=>if pos<P.size then k (.aF [.v (.bool η),.v (.int .i64 pos),.v (.int .i32 (Utf8.decode P pos).1)]) (a.set o (.it P (pos+(Utf8.decode P pos).2)))else k (.aF [.v (.bool ι)]) a
      |_=>False
    |_=>False
  |.jE=>∀o,a o=ε->k (.ey o) (a.set o (.mp [] 0))
  |.jG ok rs f h c=>match ah d h,ah d c with
    |.ey o,.agg p=>match a o with
      |some (.mp us _)=>db rs p/\qP rs us/\(match dw us (.agg p) 0 with
        |some (_,v)=>k (if ok then .aF [v,.v (.bool η)]else v) a
        |none=>k (if ok then .aF [f,.v (.bool ι)]else f) a)
      |_=>False
    |_,_=>False
  |.ks rs h c v=>match ah d h,ah d c with
    |.ey o,.agg p=>match a o with
      |some (.mp us clock)=>db rs p/\qP rs us/\k (.aF []) (a.set o (.mp (ko us (.agg p) (ah d v) clock).1 (ko us (.agg p) (ah d v) clock).2))
      |_=>False
    |_,_=>False
  |.mc neg h=>match ah d h with
    |.J xs S=>match S with
      |.nil=>k (.v (.bool (!neg))) a
      |.buf _ _=>k (.v (.bool neg)) a
      |_=>(xs=[]->k (.v (.bool (!neg))) a)/\k (.v (.bool neg)) a
    |.aq _ _ _ _=>k (.v (.bool neg)) a
    |_=>False
  |.mg h=>match qS (ah d h)with
    |some W=>k W a
    |none=>False
  |.lq c h aT aS n=>match qT d c (ah d h) aT aS n with
    |some W=>k W a
    |none=>False
  |.mh c f h=>match kt c f (ah d h) a with
    |some q=>k (.aF []) q
    |none=>False
  |.mi c h C=>match lr c (ah d h) (ah d C) a with
    |some (W,q)=>k W q
    |none=>False
  |.ml h C=>match ku (ah d h) (ah d C) a with
    |some W=>k W a
    |none=>False
  |.mj c bytes f h C=>match ah d h,ah d C with
    |.aq o b D L,.v (.int .i64 r)=>match a.read o with
      |some p=>L=c/\α p=D*c/\0<=r/\D<b+r.toNat/\(b+r.toNat)*bytes<=140737488355328/\b+r.toNat<=9223372036854775807/\
        ∀x F T,a x=ε->b+r.toNat<=F->F<=maxLen->α T=(F -(b+r.toNat))*c->k (.aq x (b+r.toNat) F c) (a.set x (.cells (p.take (b*c)++(ζ r.toNat f).flatten++T)))
      |none=>False
    |.J xs S,.v (.int .i64 r)=>xs=[]/\S=.nil/\0<r/\r.toNat*bytes<=140737488355328/\r<=9223372036854775807/\
        ∀x F T,a x=ε->r.toNat<=F->F<=maxLen->α T=(F - r.toNat)*c->k (.aq x r.toNat F c) (a.set x (.cells ((ζ r.toNat f).flatten++T)))
    |_,_=>False
def uY{c:Fr}{d h:Χ->Prop}(k:∀o,d o->h o):∀(p:List (Nat×Nat×Operand))(b:Χ),jH c b p d->jH c b p h
 |[],b,a=>k _ a
 |(_,_,_)::r,_,a=>⟨a.1,a.2.1,uY k r _ a.2.2⟩
variable{e2:c4}{K:Ctx}{j:Fr}
theorem zb(c:∀k o,s k o->Z k o)(a:G K e2 j f s):G K e2 j f Z:=by
 cases e2<;>simp only[G]at a|-
 case fv E p=>exact a.mono c (λ_ _ a=>a)
 case mg b=>grind
 case lq=>grind
 case mh=>grind
 case mi=>grind
 case ml=>grind
 case mj d bytes r b h=>
  grind
 case ic b p=>split at a;(exact⟨a.1,a.2.mono c (λ_ _ a=>a)⟩);trivial
 case me=>exact a
 case jz=>grind
 case jE=>simp_all
 case jG F x r b d=>
  split at a
  case h_2=>omega
  grind
 case ks x b d v=>
  grind
 case mf b=>
  split at a
  case h_2=>omega
  grind
 case pick=>grind
 case ll L P=>exact uY (λ_ a=>c _ _ a) _ _ a
 case alloc=>simp_all
 case box=>simp_all
 case kp=>simp_all
 case jx=>grind
 case lo=>grind
 case jw d y b z C=>
  (repeat' split at a)<;>first
   |exact a.elim
   |simp_all
   |exact a.2.2.2.elim
 case mb d b h=>
  grind
 case mc S b=>
  grind
 case jy=>grind
 case lp d bytes b h=>
  split at a
  case h_2=>omega
  split at a;grind;grind;grind
  .omega
 case jv=>grind
 case app d bytes b h=>
  grind
 case kr d y b z C T=>
  (repeat' split at a)<;>first
   |exact a.elim
   |simp_all
   |simp_all
   |exact a.2.2.2.elim
 case dB d b D=>
  grind
 case lk b D=>
  grind
 all_goals
  (repeat' split at a)<;>first
   |exact a.elim
   |exact c _ _ a
   |exact⟨a.1,c _ _ a.2⟩
   |exact⟨a.1,a.2.1,c _ _ a.2.2⟩
   |exact⟨a.1,a.2.1,a.2.2.1,c _ _ a.2.2.2⟩
   |exact⟨a.1,a.2.1,a.2.2.1,a.2.2.2.1,c _ _ a.2.2.2.2⟩
   |exact⟨a.1,a.2.1,a.2.2.1,a.2.2.2.1,a.2.2.2.2.1,c _ _ a.2.2.2.2.2⟩
def fb:List bZ->List Value->Prop
 |[],[]=>True
 |a::bw,b::xs=>a.fit b/\fb bw xs
 |_,_=>False
def pG(b:Program)(c:TypeId->Option (List bZ)):List Field->Nat->Option (List bZ)
 |[],_=>β []
 |a::h,off=>
  if a.offset=off/\a.name≠ "_" then
   match c a.type,pG b c h (off+b.cellsOf a.type)with
   |some d,β k=>if b.cellsOf a.type=α d/\(b.info? a.type).isSome then β (d++k)else ε
   |_,_=>ε
  else ε
def flatK(a:Program):Nat->TypeId->Option (List bZ)
 |0,_=>ε
 |c+1,d=>
  match a.underlying d with
  |some (.int k)=>β [.int k]
  |some .bool=>β [.bool]
  |some .string=>β [.str]
  |some (.array o b)=>match flatK a c b with
   |some h=>if a.cellsOf b=α h/\(a.info? b).isSome then β (ζ o h).flatten else ε
   |none=>ε
  |some (.struct p)=>if a.stoodInHeld d then ε else pG a (flatK a c) p.toList 0
  |_=>ε
theorem nk:∀ {a:List bZ}{b:List Value},fb a b->α b=α a
 |[],[],_=>rfl
 |_:: _,_:: _,c=>by simp[nk c.2]
def ov:∀ {a d:List bZ}{b:List Value},fb (a++d) b->fb a (b.take (α a))/\fb d (b.drop (α a))
 |[],_,_,c=>by simp[fb];trivial
 |_:: _,_,[],c=>by trivial
 |_:: _,_,_:: _,c=>by
  obtain⟨k,h⟩:=c;obtain⟨o,p⟩:=ov h;trivial
variable{e0:IntKind}{b2:TypeId}
section
def pH(d:Program)(y:Nat)(h:TypeId)(a:List bZ):Prop:=
 ∀(z:Nat)(b:World)(k o:Array Value)(c:Nat),fb a ((k.toList.drop c).take (α a))->fb a ((o.toList.drop c).take (α a))->
  ∃p r x,(part h k c).run d b=.ok p b/\(part h o c).run d b=.ok r b/\(Op.equalIn (z+y) h p r).run d b=.ok x b/\
   (x=η↔(k.toList.drop c).take (α a)=(o.toList.drop c).take (α a))
def uZ{a:TypeDesc}(c:m.underlying b2=β a)(b:World):(isAgg b2).run m b=.ok a.isRow b:=by unfold isAgg;rw[Sem.run_bind,run_underlying c b];cases a<;>rfl
def lu{b:TypeDesc}(k:m.underlying b2=β b)(o:b.isRow=η){c:TypeInfo}(p:m.info? b2=β c)(d:Array Value)(a:Nat)(h:World):
  (part b2 d a).run m h=.ok (.agg (d.extract a (a+c.size))) h:=by
 simp[part,uZ k,o,sizeOf,typeInfo,p]
def nm{a:TypeDesc}(k:m.underlying b2=β a)(o:a.isRow=ι)(b:Array Value)(c:Nat)(d:Value)(p:b[c]?=β d)(h:World):
  (part b2 b c).run m h=.ok d h:=by
 simp[part,uZ k,o,p]
def one_cell{d:bZ}(b:fb [d] ((j7.toList.drop e).take 1)):∃a,j7[e]?=β a/\d.fit a/\(j7.toList.drop e).take 1=[a]:=by
 cases c:(j7.toList.drop e)with
 |nil=>simp[c,fb]at b
 |cons a h=>
  refine⟨a,?_,?_,ρ⟩
  .have:(j7.toList.drop e)[0]?=β a:=by simp[c]
   simpa using this
  .rw[c]at b;exact b.1
theorem Gh(a b:ByteArray):a.toList=b.toList↔a=b:=by
 constructor
 .intro c;rw[ByteArray.toList_eq,ByteArray.toList_eq]at c;cases a;simp_all
 .rintro rfl;rfl
def Gi(a:m.underlying b2=β (.int e0)):pH m (e+1) b2 [.int e0]:=by
 intro h b D E F k o;obtain⟨p,r,c,x⟩:=one_cell k;obtain⟨y,z,d,C⟩:=one_cell o;rw[a4u,x,C,show h+(e+1)=(h+e)+1 by omega];cases p<;>first|exact c.elim|skip
 cases y<;>first|exact d.elim|skip
 simp only[bZ.fit]at c d;subst c;subst d;exact⟨_,_,_,nm a rfl _ _ _ r b,nm a rfl _ _ _ z b,run_equalIn_int b _ b2 _ _ _ _ a,ρ⟩
def Gj(a:m.underlying b2=β .bool):pH m (e+1) b2 [.bool]:=by
 intro c b D E F d h;obtain⟨k,o,p,r⟩:=one_cell d;obtain⟨x,y,z,C⟩:=one_cell h;rw[a4u,r,C,show c+(e+1)=(c+e)+1 by omega];cases k<;>first|exact p.elim|skip
 cases x<;>first|exact z.elim|skip
 exact⟨_,_,_,nm a rfl _ _ _ o b,nm a rfl _ _ _ y b,run_equalIn_bool' b _ b2 _ _ a,ρ⟩
def Gk(a:m.underlying b2=β .string):pH m (e+1) b2 [.str]:=by
 intro c b D E F d h;obtain⟨k,o,p,r⟩:=one_cell d;obtain⟨x,y,z,C⟩:=one_cell h;rw[a4u,r,C,show c+(e+1)=(c+e)+1 by omega];cases k<;>first|exact p.elim|skip
 cases x<;>first|exact z.elim|skip
 exact⟨_,_,_,nm a rfl _ _ _ o b,nm a rfl _ _ _ y b,run_equalIn_string b _ b2 _ _ a,by rw[beq_iff_eq,Gh];simp⟩
theorem zc{y:Nat}{o:TypeId}{a:List bZ}(z:pH m y o a)(C:m.cellsOf o=α a)(x:Nat)(p:World)(d h:Array Value):∀(b c:Nat),
  fb (ζ b a).flatten ((d.toList.drop (c*α a)).take (ζ b a).flatten.length)->fb (ζ b a).flatten ((h.toList.drop (c*α a)).take (ζ b a).flatten.length)->
  ∃k,(Op.eqItems (x+y) o (m.cellsOf o) d h (List.range' c b)).run m p=.ok k p/\
   (k=η↔(d.toList.drop (c*α a)).take (ζ b a).flatten.length=(h.toList.drop (c*α a)).take (ζ b a).flatten.length)
 |0,c,_,_=>⟨η,by rfl,ρ⟩
 |b+1,c,D,E=>by
  simp only[a5n,a4C]at D E|-;obtain⟨F,G⟩:=ov D;obtain⟨L,P⟩:=ov E;have W:min (α a) (a++(ζ b a).flatten).length=α a:=ρ;have e:(a++(ζ b a).flatten).length - α a=(ζ b a).flatten.length:=ρ;rw[a4a,W]at F L;rw[a4i,a3G,e,show c*α a+α a=(c+1)*α a by rw[a3U,a5H]]at G P;obtain⟨l,n,k,S,T,f,g⟩:=z x p d h (c*α a) F L;obtain⟨i,q,j⟩:=zc z C x p d h b (c+1) G P;have V:∀r:List Value,r.take (a++(ζ b a).flatten).length=r.take (α a)++(r.drop (α a)).take (ζ b a).flatten.length:=λr=>by
   grind
  rw[List.range'_succ];rw[<-C]at S T;simp only[Op.eqItems,Sem.run_bind,S,T,f,Result.andThen_ok];have s:((d.toList.drop (c*α a)).take (a++(ζ b a).flatten).length=(h.toList.drop (c*α a)).take (a++(ζ b a).flatten).length)↔(k=η/\i=η):=by rw[V,V,a3G,a3G,show c*α a+α a=(c+1)*α a by grind,g,j];grind[List.append_inj,nk]
  cases k;simp_all;simp_all
theorem zd{C:Nat}{D:TypeId->Option (List bZ)}(E:∀o a,D o=β a->m.cellsOf o=α a->(m.info? o).isSome->pH m C o a)(y:Nat)(p:World)(h k:Array Value):∀(r:List Field)(b:Nat)(d:List bZ),
  pG m D r b=β d->fb d ((h.toList.drop b).take (α d))->fb d ((k.toList.drop b).take (α d))->
  ∃c,(Op.eqFields (y+C) h k r).run m p=.ok c p/\(c=η↔(h.toList.drop b).take (α d)=(k.toList.drop b).take (α d))
 |[],b,d,hk,_,_=>by
  simp_all [pG,Op.eqFields]
 |s::r,b,d,hk,e,f=>by
  simp only[pG]at hk;split at hk
  case isFalse=>cases hk
  rename_i F;split at hk
  case h_2=>cases hk
  rename_i a c g i;split at hk
  case isFalse=>cases hk
  rename_i z;obtain rfl:=Δ hk;obtain⟨G,L⟩:=ov e;obtain⟨P,S⟩:=ov f;have j:min (α a) (a++c).length=α a:=ρ;have l:(a++c).length - α a=α c:=ρ;rw[a4a,j]at G P;rw[a4i,a3G,l,<-z.1]at L S;obtain⟨t,u,T,V,W,n,v⟩:=E _ _ g z.1 z.2 y p h k b G P;obtain⟨q,w,A⟩:=zd E y p h k r _ _ i L S;have B:∀x:List Value,x.take (a++c).length=x.take (α a)++(x.drop (α a)).take (α c):=λx=>by
   grind
  rw[<-F.1]at V W;simp only[Op.eqFields,if_pos F.2,Sem.run_bind,V,W,n,Result.andThen_ok];have H:((h.toList.drop b).take (a++c).length=(k.toList.drop b).take (a++c).length)↔(T=η/\q=η):=by grind[List.drop_drop,List.append_inj,nk]
  cases T;simp_all;simp_all
def sF(b:Array Value)(a c:Nat):(b.extract a (a+c)).toList=(b.toList.drop a).take c:=by simp
theorem sG:∀(d:Nat)(c:TypeId)(k:List bZ),flatK m d c=β k->m.cellsOf c=α k->(m.info? c).isSome->pH m d c k
 |0,c,k,a,_,_=>by trivial
 |d+1,c,k,a,T,V=>by
  simp only[flatK]at a;cases hu:m.underlying c with
  |none=>simp[hu]at a
  |some desc=>
   simp only[hu]at a;cases desc<;>simp only[]at a<;>first
    |(cases a;done)
    |skip
   case int s=>obtain rfl:=Δ a;exact Gi hu
   case bool=>obtain rfl:=Δ a;exact Gj hu
   case string=>obtain rfl:=Δ a;exact Gk hu
   case array W g=>
    split at a
    case h_2=>cases a
    rename_i E i;split at a
    case isFalse=>cases a
    rename_i F;obtain rfl:=Δ a;have ih:=sG d g E i F.1 F.2;obtain⟨o,p⟩:=a3C.1 V;obtain⟨t,j⟩:=a3C.1 F.2;have G:o.size=(ζ W E).flatten.length:=by simpa[Program.cellsOf,p] using T
    intro y h r x b z C;have D:=zc ih F.1 y h (r.extract b (b+o.size)) (x.extract b (b+o.size)) W 0;simp only[a6d,a4P,sF,G]at D;rw[a4a,a4V,a4a,a4V]at D;obtain⟨L,e,P⟩:=D z C;refine⟨_,_,L,lu hu rfl p r b h,lu hu rfl p x b h,?_,P⟩;rw[show y+(d+1)=(y+d)+1 by omega,run_equalIn_array h (y+d) _ _ hu j,List.range_eq_range',G];exact e
   case struct f=>
    split at a;trivial;rename_i u;obtain⟨o,p⟩:=a3C.1 V;have G:o.size=α k:=by simpa[Program.cellsOf,p] using T
    have v:m.fieldsOf c=f:=by simp[Program.fieldsOf,hu]
    intro y h r x b z C;have D:=λr x z C=>
     zd (λc E l n q=>sG d c E l n q) y h r x f.toList 0 k a z C
    have S:=D (r.extract b (b+o.size)) (x.extract b (b+o.size));simp only[a4P,sF,G]at S;rw[a4a,a4V,a4a,a4V]at S;obtain⟨L,e,P⟩:=S z C;refine⟨_,_,L,lu hu rfl p r b h,lu hu rfl p x b h,?_,P⟩;grind[run_equalIn_struct]
end
def iP(b:List (Nat×bZ)):List bZ:=b.flatMap λa=>ζ a.1 a.2
def mn:List bZ->List (Nat×bZ)
 |[]=>[]
 |a::bw=>match mn bw with
  |(c,b)::d=>if a=b then(c+1,b)::d else(1,a)::(c,b)::d
  |[]=>[(1,a)]
theorem sH:∀a:List bZ,iP (mn a)=a
 |[]=>rfl
 |b::a=>by
  have ih:=sH a;grind[mn,iP]
theorem ow{P:bb}:∀(C:List (Nat×bZ))(a:Χ)(b:List Value),db C a->α b=α a->(∀(c:Nat)(d:Value)(h:R),b[c]?=β d->a[c]?=β h->aQ P d h)->
  fb (iP C) b/\a=b.map R.v
 |[],a,b,p,o,_=>by
  simp only[db]at p;subst p;have:=a2Y (by trivial);subst this;trivial
 |(r,x)::C,a,b,p,o,D=>by
  obtain⟨V,W,e⟩:=p;obtain⟨l,m⟩:=ow C (a.drop r) (b.drop r) e (by simp[o]) (λc d h G L=>D (r+c) d h (by simpa using G) (by simpa using L));have f:∀(y)(a)(b),α b=α a->α a=y->(∀k∈a,x.sE k)->(∀(c:Nat)(d)(h),b[c]?=β d->a[c]?=β h->aQ P d h)->
    (∀E F,fb F E->fb (ζ y x++F) (b++E))/\a=b.map R.v:=by
   intro y
   induction y with
   |zero=>grind
   |succ y ih=>
    intro a b o hm S D
    match a,b,o,hm with
    |k::a,v::b,o,hm=>
     obtain⟨g,i⟩:=ih a b (by simpa using o) (by simpa using hm) (λk z=>S k (a4y _ z)) (λc d h G L=>D (c+1) d h (by trivial) (by trivial));have z:=S k a4H;have j:=D 0 v k rfl rfl;have T:k=.v v/\x.fit v:=by
      cases k<;>first
       |(cases x<;>exact z.elim)
       |skip
      cases j;refine⟨rfl,?_⟩;cases x<;>cases v<;>first|exact z|exact z.elim
     refine⟨λE F p=>⟨T.2,g E F p⟩,by rw[T.1,i];rfl⟩
  obtain⟨bm,n⟩:=f r (a.take r) (b.take r) (by simp[o]) (by simp[V]) W (λc d h G L=>by
   grind)
  grind[iP,List.take_append_drop]
def bL(y:Program)(z:R->U->Prop)(o:Oper)(h:Act)(k:World)(p:bb)(r:U)(C:R->U->Prop):Prop:=
 ∀x:Exit->Act->World->Prop,(∀v a b c d,Step p r k b c d->aQ b v a->up z a c->x (.panic [{v,recovered:=ι}]) h d)->o.wp y h k (λD d=>∃v b c a,D=h.put o.dst v/\Step p r k b c d/\aQ b v a/\C a c) x
variable{O e4 h5:Own}
section
variable{o:Oper}{a:Act}
def bL.value{v:Value}{b:bb}(c:(execOp a.eval o).run m l=.ok (.value v) h7)(d:Step t f l b u h7)(h:aQ b v q)(k:Z q u):bL m s o a l t f Z:=by intro p _;unfold Oper.wp;rw[c];exact⟨v,b,u,q,rfl,d,h,k⟩
def bL.same{v:Value}(b:Holds t f l)(c:(execOp a.eval o).run m l=.ok (.value v) l)(d:aQ t v q)(h:Z q f):bL m s o a l t f Z:=
 .value c (.refl b) d h
def bL.skip{b:bb}(c:(execOp a.eval o).run m l=.ok .skip h7)(d:Step t f l b u h7)(h:Z (.aF []) u):bL m s o a l t f Z:=by intro k _;unfold Oper.wp;rw[c];exact⟨undef,b,u,.aF [],rfl,d,aQ.undef _,h⟩
def aQ.dq{b:Value}(c:aQ t e3 (.v b)):e3=b:=by cases c;rfl
def aQ.iQ(b:aQ t e3 (.ptr e i)):e3=.pointer (β ⟨e,i,ε⟩):=by cases b;rfl
theorem aQ.aP{k:Array Value}{c:Χ}(p:bn t k c)(r:∀h∈c,h.one=η)(b d:Nat)(x:b+d<=α c):aQ t (.agg (k.extract b (b+d))) (aP η d (c.drop b)):=by have:=p.sub b d x;exact .agg _ _ (λh y=>r h (a3v (a3j y))) this.1 this.2
theorem aQ.v7(c:bn t j7 g)(b:Nat)(k:b+1<=α g):aQ t (j7.getD b Go.undef) (bt.aP ι 1 (g.drop b)):=by
 have d:b<α g:=δ;have:=c.2 b g[b] (Ν d);have h:bt.aP ι 1 (g.drop b)=g[b]:=by unfold bt.aP;simp_all
 rw[h];exact this
theorem Holds.read{l:Nat}{p:Χ}(k:Holds t f h7)(b:f.read l=β p):(∀h∈p,h.one=η)/\∃d T z,h7.heap[l]?=β (.cells d T z)/\bn t d p:=by
 unfold U.read at b;split at b
 .rename_i h c;obtain rfl:=Δ b;obtain⟨r,d,T,x,y,_⟩:=k.cM l _ c;simp_all
 .rename_i h c;obtain rfl:=Δ b;obtain⟨r,d,T,z,x,y,_⟩:=k.cM l _ c;simp_all
 .rename_i T h c;obtain rfl:=Δ b;obtain⟨r,d,x,y,_⟩:=k.cM l _ c;simp_all
 .rename_i h c;obtain rfl:=Δ b;obtain⟨r,d,T,x,y,_⟩:=k.cM l _ c;simp_all
 .cases b
def v8(b:World)(c:TypeId)(d:TypeDesc)(h:Addr)(k:Value)(p:m.underlying c=β d)(r:d.isRow=ι)(x:b.cell? h=β k):(loadVar c h).run m b=.ok k b:=by simp[loadVar,uZ p,r,x]
theorem Gl(r:TypeId)(C:Operand)(S:o.op=.load r C)(h:TypeDesc)(y:m.underlying r=β h)(c:Nat)(B:(m.info? r).map (·.size)=β c)(H:h.isRow=ι->c=1)
  (M:aJ C=η) (N:bE t a j) (z:Holds t f l) (D:G ⟨m,s⟩ (.load h.isRow c C) j f Z):bL m s o a l t f Z:=by
 have E:=N.ah C M;simp only[G]at D;split at D
 .rename_i F b i;rw[i]at E;have I:=E.iQ;split at D
  case h_2=>trivial
  rename_i V O;obtain⟨W,k⟩:=D;obtain⟨n,p,T,k4,Q,e⟩:=z.read O;cases d:h.isRow with
  |true=>
   rw[d]at k;have q:l.rangeAt F b ((p.toList.drop b).take c):=by intro L v u;grind[cell_of_row]
   have X:((p.toList.drop b).take c).length=c:=by have:=e.1;simp;omega
   have x:=run_loadAt_mid l F b r ((p.toList.drop b).take c) h q y d (by rw[X];exact B);refine .same z (v:=.agg ((p.toList.drop b).take c).toArray) ?_ ?_ k
   .simp[execOp,S,I,x]
   .have:=aQ.aP e n b c W;rw[show((p.toList.drop b).take c).toArray=p.extract b (b+c) by grind];exact this
  |false=>
   rw[d]at k;obtain rfl:=H d;have Y:b<p.size:=by have:=e.1;omega
   have P:l.cell? ⟨F,b,ε⟩=β (p.getD b undef):=by rw[cell_of_row l F b p T _ Q];simp[Y]
   have x:=v8 l r h ⟨F,b,ε⟩ _ y d P;refine .same z ?_ (aQ.v7 e b W) k;simp[execOp,S,I,Instr.loadAt,Instr.sureAddr,x]
 .rename_i V i;rw[i]at E;obtain⟨W,k⟩:=D;generalize K:a.eval C=k5 at E;cases E with
  |bR w b g V n hH k0=>
   have k2:=λL u=>z.ro _ _ _ (hH L u);cases d:h.isRow with
   |true=>
    rw[d]at k;have q:l.rangeAt w b ((ψ c).map g):=by intro L v u;grind
    have x:=run_loadAt_mid l w b r ((ψ c).map g) h q y d (by simp[B]);refine .same z (v:=.agg ((ψ c).map g).toArray) ?_ ?_ k
    .simp only[execOp,S,K,Sem.run_bind,x];rfl
    .refine .agg _ _ (λA P=>n A (a3j P)) Κ (λL k6 y=>?_);have k3:L<c:=by grind
     rw[a3O k3]at y;simp_all
   |false=>
    rw[d]at k;obtain rfl:=H d;have P:=k2 0 δ;have x:=v8 l r h ⟨w,b,ε⟩ _ y d P;refine .same z (v:=g 0) ?_ ?_ k
    .simp[execOp,S,K,Instr.loadAt,Instr.sureAddr,x]
    .match V,W with
     |A::V,_=>exact k0 0 A rfl
 .trivial
theorem Gm(k:TypeId)(c b:Array Value)(d:Nat){h:Nat×Nat}(x:l.heap[e]?=β (.cells c b2 h))(y:∀p,p<c.size->¬(h.1<=p/\p<h.2))(F:d+b.size<=c.size)(z:∀C∈b.toList,C.oneCell'=η)(v:Value)(G:v.cells=b)
  (D:(m.info? k).map (·.size)=β b.size):(Instr.storeAt k (.pointer (β ⟨e,d,ε⟩)) v).run m l=.ok () (l.setRow e (cS c d b.toList)):=by
 have r:=sD m e d b2 h b.toList 0 c l x y (by trivial) z;simp only[a4K]at r;have L:(storeCells ⟨e,d,ε⟩ b.toList).run m l=.ok () (l.setRow e (cS c d b.toList)):=by rw[r];rfl
 cases E:m.info? k with
 |none=>simp[E]at D
 |some P=>simp_all [Instr.storeAt,Instr.sureAddr,storeVar,sizeOf,typeInfo]
def Gn(k:TypeId)(c b:Operand)(C:o.op=.store k c b)(p:Nat)(D:(m.info? k).map (·.size)=β p)(v:0<p)(E:aJ c=η)(F:aJ b=η)(r:bE t a j)(L:Holds t f l)
  (d:G ⟨m,s⟩ (.store p c b) j f Z):bL m s o a l t f Z:=by
 have x:=r.ah c E;have P:=r.ah b F;simp only[G]at d;split at d
 case h_2=>trivial
 rename_i w y S;rw[S]at x;split at d
 .rename_i A V;obtain⟨W,B,e⟩:=d;have g:=x.iQ;obtain⟨h,z⟩:=P.cells δ;obtain⟨i,T,n,H,q⟩:=Step.store L V y (ah j b).cells (a.eval b).cells h z δ;refine .skip ?_ q e;have u:=Gm k i (a.eval b).cells y n (uV _) (by have:=h.1;omega) (h.nd z) (a.eval b) rfl (by rw[D,h.1,W]);simp only[execOp,C,g,Sem.run_bind,u];rfl
 .trivial
def Gp(c:TypeId)(p:o.op=.alloc c)(h:TypeInfo)(r:m.info? c=β h)(b:Value)(x:h.zero=β b)(y:∀d∈b.cells.toList,d.oneCell'=η)(k:Holds t f l)
  (z:G ⟨m,s⟩ (.alloc c (b.cells.toList.map cv)) j f Z):bL m s o a l t f Z:=by
 refine .value ?_ (Step.new k b.cells c (b.cells.toList.map cv) (λD C=>by obtain⟨d,_,rfl⟩:=a3m.1 C;exact ng d) (bn.om t _ y))
  (.ptr _ _) (z _ k.dQ)
 simp[execOp,p,Instr.alloc,zeroValue,typeInfo,r,x,newVar,newRow]
theorem Gq(c:TypeId)(b:Operand)(k:o.op=.box c b)(p:aJ b=η)(r:bE t a j)(d:Holds t f l)(h:G ⟨m,s⟩ (.box c b) j f Z):bL m s o a l t f Z:=by obtain⟨x,y⟩:=(r.ah b p).cells h.1;refine .value ?_ (Step.new d _ c _ y x) (.ptr _ _) (h.2 _ d.dQ);simp[execOp,k,Instr.box,newVar,newRow]
def ze(b:Operand)(c:o.op=.move b\/o.op=.assign b)(d:aJ b=η)(h:bE t a j)(k:Holds t f l)(p:G ⟨m,s⟩ (.eA b) j f Z):bL m s o a l t f Z:=by refine .same k ?_ (h.ah b d) p;rcases c with c|c<;>simp[execOp,c]
theorem Gr(b c d:Operand)(k:o.op=.pick b c d)(z:aJ b=η)(C:aJ c=η)(D:aJ d=η)(h:bE t a j)(p:Holds t f l)(r:G ⟨m,s⟩ (.pick b c d) j f Z):bL m s o a l t f Z:=by
 have x:=h.ah b z;simp only[G]at r;split at r
 case h_2=>trivial
 rename_i E F;rw[F]at x;have y:=x.dq;cases E
 .exact .same p (by simp[execOp,k,y,asBool]) (h.ah d D) (by trivial)
 .exact .same p (by simp[execOp,k,y,asBool]) (h.ah c C) (by trivial)
def Gs(c:Operand)(k:o.op=.nilCheck c)(x:aJ c=η)(y:bE t a j)(p:Holds t f l)(d:G ⟨m,s⟩ (.pA c) j f Z):bL m s o a l t f Z:=by
 have b:=y.ah c x;simp only[G]at d;split at d
 .rename_i D E h;rw[h]at b;have:=b.iQ;exact .same p (by simp[execOp,k,this]) (.ptr _ _) d
 .rename_i z h;rw[h]at b;generalize r:a.eval c=C at b;refine .same p ?_ b d;cases b;simp[execOp,k,r]
 .rename_i F z h;rw[h]at b;generalize r:a.eval c=C at b;refine .same p ?_ b d;cases b;simp[execOp,k,r]
 .trivial
theorem zf(k:aQ t e3 (.bR g))(d:Nat):∃b c,e3=.pointer (β ⟨b,c,ε⟩)/\aQ t (.pointer (β ⟨b,c+d,ε⟩)) (.bR (g.drop d)):=by
 cases k with
 |bR b c p g r hH z=>refine⟨b,c,rfl,.bR b (c+d) (λh=>p (d+h)) _ (λx y=>r x (a3v y)) (λh C=>?_) (λh D E=>?_)⟩;grind;grind
theorem gM(b c d:Nat):(⟨b,c,ε⟩:Addr).add d=⟨b,c+d,ε⟩:=Addr.add_mid b c d
theorem Gt(r:TypeId)(d:Operand)(x:Nat)(C:o.op=.fieldAddr r d x)(D:Array Field)(e:m.underlying r=β (.struct D))(b:Field)(g:D[x]?=β b)(E:Nat)(P:(m.info? b.type).map (·.size)=β E)(i:E≠0)
  (S:aJ d=η) (T:bE t a j) (F:Holds t f l) (h:G ⟨m,s⟩ (.kq b.offset d) j f Z):bL m s o a l t f Z:=by
 have k:=T.ah d S;have L:∀p c:Nat,(Instr.fieldAt r (.pointer (β ⟨p,c,ε⟩)) x).run m l=.ok (.pointer (β ⟨p,c+b.offset,ε⟩)) l:=by
  intro p c;cases V:m.info? b.type with
  |none=>simp[V]at P
  |some ii=>simp_all [Instr.fieldAt,run_underlying,Instr.sureAddr,fieldPlace,sizeOf,typeInfo,gM]
 simp only[G]at h;split at h
 .rename_i n c y;rw[y]at k;have z:=k.iQ;exact .same F (by simp only[execOp,C,z,Sem.run_bind,L];rfl) (.ptr _ _) h
 .rename_i q y;rw[y]at k;obtain⟨p,c,z,W⟩:=zf k b.offset;exact .same F (by simp only[execOp,C,z,Sem.run_bind,L];rfl) W h
 .trivial
theorem Gu(C:TypeId)(h k:Operand)(A:o.op=.indexAddr C h k)(D:Nat)(E:TypeId)(W:m.underlying C=β (.array D E))(c:Nat)(S:(m.info? E).map (·.size)=β c)
  (e:aJ h=η) (g:aJ k=η) (T:bE t a j) (V:Holds t f l) (p:G ⟨m,s⟩ (.pB c D h k) j f Z):bL m s o a l t f Z:=by
 have r:=T.ah h e;have x:=T.ah k g;have B:∀(y d)(z)(b:Int),0<=b->b<D->(Instr.indexAt C (.pointer (β ⟨y,d,ε⟩)) (.int z b)).run m l=.ok (.pointer (β ⟨y,d+b.toNat*c,ε⟩)) l:=by
  intro y d z b i n;cases F:m.info? E with
  |none=>simp[F]at S
  |some ii=>
   have q:ii.size=c:=by simpa[F] using S
   simp[Instr.indexAt,asIntOf,run_underlying W,Instr.sureAddr,i,n,sizeOf,typeInfo,F,q,gM]
 simp only[G]at p;split at p
 .rename_i H d z b L P;rw[L]at r;rw[P]at x;have u:=r.iQ;have v:=x.dq;exact .same V (by simp_all [execOp]) (.ptr _ _) p.2.2
 .rename_i I z b L P;rw[L]at r;rw[P]at x;have v:=x.dq;obtain⟨y,d,u,w⟩:=zf r (b.toNat*c);exact .same V (by simp_all [execOp]) w p.2.2
 .trivial
theorem cT{d:Nat}:∀ {b:Χ},(∀c∈b,α c.cells=d)->(flat b).length=α b*d
 |[],_=>by simp[flat]
 |k::b,h=>by
  have:=cT (λc p=>h c (a4y _ p));have r:=h k a4H;simp only[flat,a3A,a2V,a3e,a3U,a5H]at this|-;omega
theorem fw{d:Nat}:∀ {c:Χ} (b:Nat),(∀h∈c,α h.cells=d)->(flat c).drop (b*d)=flat (c.drop b)/\(flat c).take (b*d)=flat (c.take b)
 |c,0,_=>by simp[flat]
 |[],b+1,_=>by simp[flat]
 |k::c,b+1,p=>by
  obtain⟨x,y⟩:=fw b (λh r=>p h (a4y _ r));have z:=p k a4H;have h:(b+1)*d=α k.cells+b*d:=by grind
  grind[flat,List.drop_append,List.drop_of_length_le,Nat.add_sub_cancel_left]
def aQ.va(x:aQ t e3 (.J g O))(L:g≠[]):∃(c d h k:Nat)(p:Nat->Value),e3=.slice (β ⟨c,d,ε⟩) (α g) h/\0<k/\α g<=h/\(∀y∈g,α y.cells=k)/\(∀z∈flat g,z.one=η)/\
  (∀b,b<α g*k->t c (d+b)=β (p b))/\(∀b r,(flat g)[b]?=β r->aQ t (p b) r)/\O.ok c d h:=by
 cases x with
 |cX=>trivial
 |J c d len h k p g O hk hlen C D E hH F G=>subst hlen;exact⟨c,d,h,k,p,rfl,hk,C,D,E,hH,F,G⟩
theorem Gv(e:TypeId)(y S:Operand)(O:o.op=.indexAddr e y S)(g:TypeId)(T:m.underlying e=β (.slice g))(c:Nat)(A:(m.info? g).map (·.size)=β c)
  (Q:aJ y=η) (X:aJ S=η) (B:bE t a j) (i:Holds t f l) (h:G ⟨m,s⟩ (.dB c y S) j f Z):bL m s o a l t f Z:=by
 have k:=B.ah y Q;have z:=B.ah S X;have Y:∀(C p len r:Nat)(D)(b:Int),0<=b->b<len->(Instr.indexAt e (.slice (β ⟨C,p,ε⟩) len r) (.int D b)).run m l=.ok (.pointer (β ⟨C,p+b.toNat*c,ε⟩)) l:=by
  intro C p len r D b E V;cases n:m.info? g with
  |none=>simp[n]at A
  |some ii=>
   have k0:ii.size=c:=by simpa[n] using A
   simp[Instr.indexAt,asIntOf,run_underlying T,E,V,sizeOf,typeInfo,n,k0,gM]
 simp only[G]at h;split at h
 .rename_i q l0 D b F L;rw[F]at k;rw[L]at z;have u:=z.dq;obtain⟨E,h⟩:=h;split at h
  case h_2=>trivial
  rename_i el H;obtain⟨k2,P⟩:=h;have l1:=(a2Z.1 H).1;obtain⟨C,p,r,v,k3,l2,l3,I,w,l4,k4,k5,_⟩:=k.va (by grind);have k6:=a3d H;obtain rfl:c=v:=by rw[<-k2];exact w el k6
  have l5:b<(α q):=δ;refine .same i (v:=.pointer (β ⟨C,p+b.toNat*c,ε⟩)) (by simp_all [execOp]) ?_ P;have K:∀d x,el.cells[d]?=β x->(flat q)[b.toNat*c+d]?=β x:=λd x T=>by
   have l6:=(fw b.toNat w).1;have:((flat q).drop (b.toNat*c))[d]?=β x:=by grind[List.drop_eq_getElem_cons,Ε,flat,List.getElem?_append_left]
   simpa using this
  refine .bR C _ (λd=>k3 (b.toNat*c+d)) _ (λl7 l8=>?_) (λd k7=>?_) (λd x T=>k5 _ x (K d x T));grind[List.getElem?_of_mem,List.mem_of_getElem?]
  .rw[a6o];refine k4 _ ?_;have:=(a2Z.1 (K d _ (Ν k7))).1;rwa[cT w]at this
 .rename_i W p len l9 v D b F L;rw[F]at k;rw[L]at z;have u:=z.dq;obtain⟨rfl,E,V,P⟩:=h;generalize M:a.eval y=k8 at k;cases k with
  |bB W p len r c k9 I=>exact .same i (by simp_all [execOp]) (.ptr _ _) P
 .rename_i W len r v D b F L;rw[F]at k;rw[L]at z;have u:=z.dq;obtain⟨rfl,E,V,P⟩:=h;generalize M:a.eval y=k8 at k;cases k with
  |aq W len r c k9 I=>have N:=Y W 0 len r D b E V;rw[a3t]at N;exact .same i (by simp only[execOp,O,M,u,Sem.run_bind,N];rfl) (.ptr _ _) P
 .trivial
end
section
variable{o:Oper}{a:Act}
theorem zg(k:bn t j7 g)(G:∀y∈g,y.one=η)(d:TypeId)(h:TypeDesc)(z:m.underlying d=β h)(c:Nat)(p:(m.info? d).map (·.size)=β c)(C:h.isRow=ι->c=1)
  (b:Nat) (D:b+c<=α g):∃v,(∀l,(part d j7 b).run m l=.ok v l)/\aQ t v (aP h.isRow c (g.drop b)):=by
 cases r:m.info? d with
 |none=>simp[r]at p
 |some E=>
  have L:E.size=c:=by simpa[r] using p
  cases x:h.isRow with
  |true=>simp_all [lu,aQ.aP]
  |false=>
   obtain rfl:=C x;have F:b<j7.size:=by have:=k.1;omega
   exact⟨_,λl=>nm z x j7 b (j7.getD b undef) (by simp[F]) l,aQ.v7 k b D⟩
def Gw(r:TypeId)(c:Operand)(x:Nat)(z:o.op=.field r c x)(y:Array Field)(C:m.underlying r=β (.struct y))(b:Field)(D:y[x]?=β b)(h:TypeDesc)(E:m.underlying b.type=β h)(k:Nat)
  (F:(m.info? b.type).map (·.size)=β k) (L:h.isRow=ι->k=1) (P:aJ c=η) (S:bE t a j) (T:Holds t f l) (d:G ⟨m,s⟩ (.ot h.isRow b.offset k c) j f Z):bL m s o a l t f Z:=by
 have p:=S.ah c P;simp only[G]at d;split at d
 case h_2=>exact d.elim
 rename_i V W;rw[W]at p;generalize e:a.eval c=w at p;cases p with
 |agg A V g i n=>obtain⟨v,q,u⟩:=zg ⟨i,n⟩ g b.type h E k F L b.offset d.1;exact .same T (by simp[execOp,z,e,Instr.field,run_underlying C,D,asAgg,q]) u d.2
theorem Gx(y:TypeId)(c h:Operand)(B:o.op=.index y c h)(z:Nat)(d:TypeId)(H:m.underlying y=β (.array z d))(k:TypeDesc)(F:m.underlying d=β k)(b:Nat)
  (p:(m.info? d).map (·.size)=β b) (L:k.isRow=ι->b=1) (P:aJ c=η) (S:aJ h=η) (C:bE t a j) (T:Holds t f l) (r:G ⟨m,s⟩ (.oo k.isRow b z c h) j f Z):bL m s o a l t f Z:=by
 have x:=C.ah c P;have D:=C.ah h S;simp only[G]at r;split at r
 case h_2=>trivial
 rename_i V I W e g;rw[e]at x;rw[g]at D;have K:=D.dq;generalize M:a.eval c=N at x;cases x with
 |agg O V i n q=>
  obtain⟨Q,hm,u,w⟩:=r;obtain⟨v,X,A⟩:=zg ⟨n,q⟩ i d k F b p L (W.toNat*b) u;cases E:m.info? d with
  |none=>simp[E]at p
  |some ii=>
   have Y:ii.size=b:=by simpa[E] using p
   exact .same T (by simp_all [execOp,Instr.index,asIntOf,run_underlying,sizeOf,typeInfo]) A w
def Gy(h:TypeId)(c d:Operand)(C:o.op=.index h c d)(D:m.underlying h=β .string)(E:aJ c=η)(F:aJ d=η)(k:bE t a j)(L:Holds t f l)(b:G ⟨m,s⟩ (.lk c d) j f Z):bL m s o a l t f Z:=by
 have p:=k.ah c E;have r:=k.ah d F;simp only[G]at b;split at b
 case h_2=>trivial
 rename_i x n y P S;rw[P]at p;rw[S]at r;have T:=p.dq;have V:=r.dq;obtain⟨W,b⟩:=b;split at b
 case h_2=>trivial
 rename_i e z;have g:x[y.toNat]?=β e:=by have i:=(a4d.1 z).1;rw[getElem?_pos x y.toNat i];have:=(a4d.1 z).2;rw[<-this];rfl
 exact .same L (by simp[execOp,C,T,V,Instr.index,asIntOf,run_underlying D,W,g]) (.v _ rfl) b
theorem Gz(b:Operand)(c:Nat)(k:o.op=.extract b c)(p:aJ b=η)(r:bE t a j)(x:Holds t f l)(d:G ⟨m,s⟩ (.ext b c) j f Z):bL m s o a l t f Z:=by
 have h:=r.ah b p;simp only[G]at d;split at d
 case h_2=>trivial
 rename_i y z;rw[z]at h;split at d
 case h_2=>trivial
 rename_i C D;generalize E:a.eval b=P at h;cases h with
 |aF us y S F=>
  have L:c<us.size:=by grind
  have:=F c C D;refine .same x ?_ this d;simp[execOp,k,E,Instr.extract,L]
def GA(L:TypeId)(c:Operand)(x:o.op=.call {callee:=.builtin .len,args:=#[c],argTypes:=#[L]})(T:TypeId)(y:m.underlying L=β (.slice T))
  (V:aJ c=η) (W:bE t a j) (z:Holds t f l) (h:G ⟨m,s⟩ (.len c) j f Z):bL m s o a l t f Z:=by
 have b:=W.ah c V;simp only[G]at h;split at h
 .rename_i P e k;rw[k]at b;generalize p:a.eval c=C at b;have D:∃E d,C=.slice E (α P) d:=by
   cases b with
   |cX E d=>simp
   |J n S len d r q P e hk D=>subst D;simp
  obtain⟨E,d,rfl⟩:=D;exact .same z (by simp[execOp,x,resolve,invoke,builtin,p,Builtin.len_,run_underlying y,goInt]) (.v _ rfl) h
 .rename_i F S g u r k;rw[k]at b;generalize p:a.eval c=C at b;cases b with
  |bB F S len d r hk i=>exact .same z (by simp[execOp,x,resolve,invoke,builtin,p,Builtin.len_,run_underlying y,goInt]) (.v _ rfl) h
 .rename_i F g d r k;rw[k]at b;generalize p:a.eval c=C at b;cases b with
  |aq F len d r hk i=>exact .same z (by simp[execOp,x,resolve,invoke,builtin,p,Builtin.len_,run_underlying y,goInt]) (.v _ rfl) h
 .trivial
def GB(d:TypeId)(b:Operand)(k:o.op=.call {callee:=.builtin .len,args:=#[b],argTypes:=#[d]})(p:m.underlying d=β .string)
  (r:aJ b=η) (x:bE t a j) (y:Holds t f l) (c:G ⟨m,s⟩ (.pC b) j f Z):bL m s o a l t f Z:=by
 have h:=x.ah b r;simp only[G]at c;split at c
 .rename_i D z;rw[z]at h;have C:=h.dq;exact .same y (by simp[execOp,k,resolve,invoke,builtin,C,Builtin.len_,run_underlying p,goInt]) (.v _ rfl) c
 .trivial
theorem GC(c:BinOp)(x:TypeId)(k p d:Value)(b:br c k p=β d)(r:World):(binOp c x k p).run m r=.ok d r/\d.oneCell'=true:=by
 unfold br at b;split at b
 .rename_i C D E F;split at b
  .rename_i h;unfold nh at b;split at b
   .cases b
   .rename_i y;cases c<;>simp[fE]at h<;>simp only[]at b<;>(obtain rfl:=Δ b)<;>simp[binOp,Op.shift,y,Value.oneCell']
  .rename_i h;split at b
   .rename_i z;subst z;cases c<;>simp[fE]at h<;>simp only[iO]at b<;>first
     |(split at b<;>first|(cases b;done)|skip)
     |skip
    all_goals (obtain rfl:=Δ b)
    all_goals simp_all [binOp,Op.intArith,Op.intDiv,Op.intBits,Op.intCmp,Value.oneCell']
    all_goals grind
   .cases b
 .unfold py at b;cases c<;>simp only[]at b<;>first
   |(cases b;done)
   |(split at b<;>first|(cases b;done)|skip)
   |skip
  all_goals (obtain rfl:=Δ b)
  all_goals simp[binOp,Op.stringOp,Value.oneCell']
  omega
 .cases b
def GD(b:BinOp)(p:TypeId)(r x:Operand)(d h:Value)(c:(br b d h).isSome)(k:World):(eqGuard b p r x d h).run m k=.ok () k:=by
 unfold br at c;split at c<;>first
  |(cases b<;>simp[eqGuard];done)
  |simp at c
theorem vb(h:BinOp)(k:TypeId)(b c:Operand)(y:TypeId)(V:o.op=.binOp h k b c y)(z:aJ b=η)(C:aJ c=η)(p:bE t a j)(D:Holds t f l)(d:G ⟨m,s⟩ (.bin h b c) j f Z):bL m s o a l t f Z:=by
 have r:=p.ah b z;have x:=p.ah c C;simp only[G]at d;split at d
 case h_2=>trivial
 rename_i E v F L;rw[F]at r;rw[L]at x;have W:=r.dq;have e:=x.dq;split at d
 case h_2=>trivial
 rename_i P S;obtain⟨g,T⟩:=GC (m:=m) h k E v P S l;exact .same D (by simp_all [execOp,GD]) (.v _ T) d
def GF(c:UnOp)(x:TypeId)(d:Operand)(y:o.op=.unOp c x d)(z:aJ d=η)(C:bE t a j)(D:Holds t f l)(h:G ⟨m,s⟩ (.un c d) j f Z):bL m s o a l t f Z:=by
 have k:=C.ah d z;simp only[G]at h;split at h
 case h_2=>trivial
 rename_i E F;rw[F]at k;have L:=k.dq;split at h
 case h_2=>trivial
 rename_i p b;have r:(Op.unary c E).run m l=.ok p l/\p.oneCell'=true:=by
  unfold ni at b;split at b
  .cases c<;>simp only[]at b<;>first|(cases b;done)|skip
   obtain rfl:=Δ b;trivial
  .cases c<;>simp only[]at b<;>first|(cases b;done)|skip
   all_goals (obtain rfl:=Δ b)
   all_goals simp[Op.unary,Op.intArith,Op.intBits,Value.oneCell']
  .cases b
 exact .same D (by simp[execOp,y,L,r.1]) (.v _ r.2) h
def GG(d h:TypeId)(b:Operand)(r:o.op=.convert d h b)(k x:IntKind)(y:m.underlying d=β (.int x))(z:m.underlying h=β (.int k))(C:aJ b=η)(D:bE t a j)(E:Holds t f l)(c:G ⟨m,s⟩ (.ib k b) j f Z):bL m s o a l t f Z:=by
 have p:=D.ah b C;simp only[G]at c;split at c
 case h_2=>trivial
 rename_i P S F;rw[F]at p;have L:=p.dq;exact .same E (by simp[execOp,r,L,convert,run_underlying y,run_underlying z,Conv.intToInt]) (.v _ rfl) c
theorem GH(D:Bool)(b:TypeId)(k p:Operand)(w:TypeId)(l4:o.op=.binOp (if D then .neq else .eql) b k p w)(d:Nat)(c:List bZ)(A:flatK m d b=β c)(S:m.cellsOf b=α c)(T:(m.info? b).isSome)(l5:d<=10000)
  (B:(m.underlying b).any (·.isRow)=η) (l6:m.eqGuardType m.depth b=ι) (H:aJ k=η) (I:aJ p=η) (V:bE t a j) (W:Holds t f l) (E:G ⟨m,s⟩ (.eqv D (mn c) k p) j f Z):bL m s o a l t f Z:=by
 have F:=V.ah k H;have L:=V.ah p I;simp only[G]at E;split at E
 case h_2=>trivial
 rename_i r x K M;rw[K]at F;rw[M]at L;generalize l7:a.eval k=l8 at F;generalize l9:a.eval p=n0 at L;cases F with
 |agg h r n1 N O=>
  cases L with
  |agg us x n2 Q X=>
   obtain⟨Y,k0,e⟩:=E;have g:bn t h r:=⟨N,O⟩;have i:bn t us x:=⟨Q,X⟩;obtain⟨n,k2⟩:=ow _ r h.toList Y (bn.dG.1 g).1 (bn.dG.1 g).2;obtain⟨q,k3⟩:=ow _ x us.toList k0 (bn.dG.1 i).1 (bn.dG.1 i).2;rw[sH]at n q;have k4:h.size=α c:=by have:=nk n;trivial
   have k5:us.size=α c:=by have:=nk q;trivial
   obtain⟨P,u⟩:=a3C.1 T;have v:P.size=α c:=by simpa[Program.cellsOf,u] using S
   obtain⟨y,k6⟩:∃y,m.underlying b=β y:=by
    cases hu:m.underlying b with
    |none=>simp[hu]at B
    |some y=>simp
   have k7:y.isRow=true:=by simp_all
   obtain⟨n3,n4,k8,z,C,k9,l0⟩:=sG d b c A S T (10000 - d) l h us 0 (by grind) (by grind);rw[lu k6 k7 u]at z C;have l1:h.extract 0 (0+P.size)=h:=by rw[a3t,v,<-k4];simp
   have l2:us.extract 0 (0+P.size)=us:=by rw[a3t,v,<-k5];simp
   rw[l1]at z;rw[l2]at C;simp only[Result.ok.injEq,and_true]at z C;subst z;subst C;rw[show 10000 - d+d=10000 by omega]at k9;have l3:k8=peq (.agg r) (.agg x):=by rw[a5t,pz,l0,a4P,a4P,k2,k3];grind[Θ,R.agg.injEq,List.map_inj_right]
   subst l3;cases D
   .refine .same W ?_ (.v _ rfl) (by simpa using e);simp_all [execOp,run_eqGuard_agg,run_eql_struct]
   .refine .same W ?_ (.v _ rfl) (by simpa using e);simp_all [execOp,run_eqGuard_agg,run_neq_struct]
def GI(x:Bool)(c:TypeId)(y E:Operand)(W:TypeId)(h:o.op=.binOp (if x then .neq else .eql) c y E W)(L:TypeId)(P:m.underlying c=β (.pointer L))(S:TypeInfo)(v:m.info? L=β S)(w:S.size≠0)(e:aJ y=η)(g:aJ E=η)(T:bE t a j)(k:Holds t f l)
  (p:G ⟨m,s⟩ (.pD x y E) j f Z):bL m s o a l t f Z:=by
 have d:=T.ah y e;have r:=T.ah E g;have i:m.pointee c=L:=by simp[Program.pointee,P]
 have n:m.underlying c=β (.pointer (m.pointee c)):=by rw[i];exact P
 have bm:∀F:Option Addr,(Op.equalIn 10000 c (.pointer F) (.pointer ε)).run m l=.ok F.isNone l:=λF=>run_equalIn_pointer_nil l 9999 c F n;simp only[G]at p;split at p
 .rename_i A q z C;rw[z]at d;rw[C]at r;have D:=d.iQ;have b:=r.dq;cases x
  .exact .same k (by simp[execOp,h,D,b,eqGuard,binOp,Op.equal,Op.maxDepth,bm]) (.v _ rfl) p
  .exact .same k (by simp[execOp,h,D,b,eqGuard,binOp,Op.equal,Op.maxDepth,bm]) (.v _ rfl) p
 .rename_i u z C;rw[z]at d;rw[C]at r;have b:=r.dq;generalize V:a.eval y=B at d;cases d with
  |bR H q I u K hH M=>
   cases x
   .exact .same k (by simp[execOp,h,V,b,eqGuard,binOp,Op.equal,Op.maxDepth,bm]) (.v _ rfl) p
   .exact .same k (by simp[execOp,h,V,b,eqGuard,binOp,Op.equal,Op.maxDepth,bm]) (.v _ rfl) p
 .rename_i z C;rw[z]at d;rw[C]at r;have D:=d.dq;have b:=r.dq;cases x
  .exact .same k (v:=.bool η) (by simp[execOp,h,D,b,eqGuard,binOp,Op.equal,Op.maxDepth,bm]) (.v _ rfl) (by trivial)
  .exact .same k (v:=.bool ι) (by simp[execOp,h,D,b,eqGuard,binOp,Op.equal,Op.maxDepth,bm]) (.v _ rfl) (by trivial)
 .trivial
theorem GJ(b:FuncId)(c:Func)(args:Array Operand)(y:Array TypeId)(z:o.op=.call {callee:=.value (.func b),args,argTypes:=y})(C:m.funcs[b]?=β c)(D:c.body.isSome) (E:c.name≠ "runtime.NumGoroutine")
  (F:∀h∈args.toList,aJ h=η) (L:bE t a j) (r:Holds t f l) (P:G ⟨m,s⟩ (.fv b args.toList) j f Z):bL m s o a l t f Z:=by
 intro g i;have S:bn t (args.map a.eval) (args.toList.map (ah j)):=by
  refine bn.dG.2 ⟨ρ,λT h V d k=>?_⟩;rw[a5l,a3u]at d;rw[a3u]at k;cases p:args.toList[T]? with
  |none=>simp[p]at d
  |some op=>
   rw[p]at d k;obtain rfl:a.eval op=h:=by simpa using d
   obtain rfl:ah j op=V:=by simpa using k
   exact L.ah op (F op (a3d p))
 have W:=P (args.map a.eval) l t S r;have e:(execOp a.eval o).run m l=.ok (.enter b (args.map a.eval)) l:=by
  cases x:c.body with
  |none=>simp[x]at D
  |some n=>simp[execOp,z,resolve,Act.eval,Deferred.ofValue,invoke,callFunc,C,E,x]
 unfold Oper.wp;rw[e];exact W.mono λq u r=>by
  grind
end
variable{b1:Int}
section
variable{o:Oper}{a:Act}
def valOf(b:Act)(c:Option Operand):Option Value:=c.map b.eval
theorem fF(h:bE t a j){b:Option Operand}(p:b.all aJ=η)(c:dg j b e=β b1):(b=ε/\b1=e)\/∃d,valOf a b=β (.int d b1):=by
 cases b with
 |none=>left;simp only[dg,a3c]at c;simp_all
 |some b=>
  right;simp only[dg]at c;split at c
  .rename_i d r k;obtain rfl:=Δ c;have:=h.ah b (by trivial);rw[k]at this;exact⟨d,by simp[valOf,this.dq]⟩
  .cases c
theorem zh(z:Bool)(d h:Nat)(k p:Option Operand)(c b:Int)(C:(k=ε/\c=0)\/∃r,valOf a k=β (.int r c))(D:(p=ε/\b=d)\/∃r,valOf a p=β (.int r b))
  (E:0<=c) (F:c<=b) (T:b<=d) (V:d<=h) (x:World):(Instr.sliceBounds z d h (valOf a k) (valOf a p) ε).run m x=.ok (c.toNat,b.toNat,h) x:=by
 have W:(b.toNat)=b:=a4s δ;have G:b<=(h):=δ;have L:0<=b:=δ;have y:valOf a ε=none:=rfl;rcases C with⟨rfl,rfl⟩|⟨e,P⟩<;>rcases D with⟨rfl,rfl⟩|⟨f,S⟩
 .rfl
 .simp only[Instr.sliceBounds,y,S];simp[run_sliceBound,G,L]
 .simp only[Instr.sliceBounds,y,P];simp[run_sliceBound,E,F]
 simp_all [Instr.sliceBounds,run_sliceBound]
theorem GK(k7:TypeId)(C:Operand)(D g:Option Operand)(n4:o.op=.slice k7 C D g ε)(p:TypeId)(l2:m.underlying k7=β (.slice p))(E:Nat)(K:(m.info? p).map (·.size)=β E)(l3:aJ C=η)(M:D.all aJ=η)(N:g.all aJ=η)
  (P:bE t a j) (O:Holds t f l) (F:G ⟨m,s⟩ (.oq E C D g) j f Z):bL m s o a l t f Z:=by
 have r:=P.ah C l3;have Q:∀(x)(len d:Nat)(c b:Int),((D=ε/\c=0)\/∃X,valOf a D=β (.int X c))->((g=ε/\b=len)\/∃X,valOf a g=β (.int X b))->0<=c->c<=b->b<=len->len<=d->
   a.eval C=.slice x len d->(execOp a.eval o).run m l=.ok (.value (sliced x c.toNat b.toNat d E)) l:=by
  intro x len d c b w S T V L k8 i;have l4:=zh (m:=m) η len d D g c b w S T V L k8 l;simp only[valOf]at l4;cases l5:m.info? p with
  |none=>simp[l5]at K
  |some ii=>simp_all [execOp,Instr.sliceAt,Instr.slice,run_underlying,sizeOf,typeInfo,sliced]
 simp only[G]at F;split at F
 .rename_i h k9 y;rw[y]at r;split at F
  case h_2=>trivial
  rename_i c b z W;obtain⟨T,V,L,n5,n⟩:=F;have w:=fF P M z;have S:=fF P N W;generalize i:a.eval C=A at r;have l6:∃x d,A=.slice x (α h) d/\α h<=d:=by
   cases r with
   |cX x d=>simp
   |J Y B len d E k0 h k9 K k2 e=>grind
  obtain⟨x,d,k3,e⟩:=l6;have q:=Q x (α h) d c b (by trivial) S T V L e (by rw[i,k3]);refine .same O q ?_ n;have l7:aQ t (sliced x c.toNat b.toNat d E) (.J ((h.take b.toNat).drop c.toNat) .any):=by
   by_cases l8:c.toNat=b.toNat
   .have p:(h.take b.toNat).drop c.toNat=[]:=by rw[List.drop_eq_nil_iff];simp;omega
    rw[p,l8];unfold sliced;rw[a5d];refine .cX _ _ _ (λl9=>?_) trivial;split at l9
    .omega
    .cases r with
     |cX n9 l0 a00 bS=>simp_all
     |J Y B len l0 k k0 h k9 K k2 e=>simp_all
   .have l1:h≠[]:=by rintro rfl;simp at L;omega
    obtain⟨Y,B,l0,k,k0,k4,n0,a01,k5,a02,n1,a03,_⟩:=r.va l1;rw[k3]at k4;simp only[Value.slice.injEq]at k4;obtain⟨rfl,_,rfl⟩:=k4;obtain rfl:k=E:=by
     match h,l1 with
     |fX::h,_=>simp_all
    unfold sliced;rw[if_neg δ,a3P,gM];have n2:∀p∈(h.take b.toNat).drop c.toNat,α p.cells=k:=λp y=>k5 p (a3j (a3v y));have a04:flat ((h.take b.toNat).drop c.toNat)=((flat h).take (b.toNat*k)).drop (c.toNat*k):=by rw[(fw b.toNat k5).2,(fw c.toNat (λp y=>k5 p (a3j y))).1]
    have k2:((h.take b.toNat).drop c.toNat).length=b.toNat - c.toNat:=Κ;refine .J Y _ _ _ k (λH=>k0 (c.toNat*k+H)) _ .any n0 k2.symm δ n2 (λa05 k8=>?_) (λH a06=>?_) (λH a07 l2=>?_) trivial;grind
    .rw[a6o];refine n1 _ ?_;have:c.toNat*k+H<b.toNat*k:=by
      have p:b.toNat*k=c.toNat*k+(b.toNat - c.toNat)*k:=by rw[<-a3U];congr 1;omega
      omega
     exact a4c this (a3g _ δ)
    grind
  unfold uW;split
  .simp only[dg,a3c]at z W;subst z;subst W;have:(h.take ((α h:Int)).toNat).drop ((0:Nat):Int).toNat=h:=ρ;rw[this];have n3:sliced x ((0:Nat):Int).toNat ((α h):Int).toNat d E=A:=by rw[k3];unfold sliced;simp_all [Addr.add]
   rw[n3];exact r
  .exact l7
 .rename_i u B v d k y;rw[y]at r;split at F
  case h_2=>trivial
  rename_i c b z W;obtain⟨rfl,T,V,L,k6,n⟩:=F;have w:=fF P M z;have S:=fF P N W;generalize i:a.eval C=A at r;cases r with
  |bB u B v d E I e=>have q:=Q _ v d c b (by trivial) S T V L e i;refine .same O q ?_ n;unfold sliced;rw[if_neg δ,a3P,gM];exact .bB _ _ _ _ _ I δ
 .rename_i u v d k y;rw[y]at r;split at F
  case h_2=>trivial
  rename_i c b z W;obtain⟨rfl,T,V,L,k6,n⟩:=F;have w:=fF P M z;have S:=fF P N W;generalize i:a.eval C=A at r;cases r with
  |aq u v d k I e=>
   have q:=Q _ v d c b (by trivial) S T V L e i;refine .same O q ?_ n;cases D with
   |none=>
    simp only[dg,a3c]at z;subst z;simp only[a4G,qR,a3R,if_false];have:sliced (β ⟨u,0,ε⟩) ((0:Nat):Int).toNat b.toNat d k=.slice (β ⟨u,0,ε⟩) b.toNat d:=by unfold sliced;simp[Addr.add]
    rw[this];exact .aq _ _ _ _ I δ
   |some D=>simp only[a5e,qR,if_true];have k6:=k6 rfl;unfold sliced;rw[if_neg δ,a3P,gM,a3t];exact .bB _ _ _ _ _ I δ
 .trivial
theorem vc(z:0<e)(h:i*e<=α g)(C:∀k∈g,k.one=η):(∀b∈ez e i g,α b.cells=e)/\flat (ez e i g)=g.take (i*e)/\(ez e i g).length=i:=by
 unfold ez;split
 .rename_i p;subst p;rw[a3M]at h|-;have D:∀b:R,b.one=η->b.cells=[b]:=λb d=>by cases b<;>first|rfl|(simp[R.one]at d)
  refine⟨λb d=>by grind,?_,Κ⟩;have:∀c:Χ,(∀b∈c,b.one=η)->flat c=c:=by
   intro c
   induction c with
   |nil=>intro _;rfl
   |cons E c ih=>grind[flat,List.mem_cons_self,List.mem_cons_of_mem]
  grind
 .refine⟨λb d=>?_,?_,ρ⟩
  .obtain⟨r,x,rfl⟩:=a3m.1 d;have y:=a4b.1 x;have:(r+1)*e<=i*e:=a3g _ y;grind[R.cells,List.length_take,List.length_drop,Nat.add_mul]
  .clear h
   induction i with
   |zero=>simp[flat]
   |succ i ih=>rw[List.range_succ,a3V];simp only[flat,a3S,a3q,a4L,a3A,a6s,a3Y,R.cells]at ih|-;rw[ih,a3U,a5H,List.take_add]
theorem zi(b:f e=β (.ro g)):f.set e (.ro g)=f:=by grind[U.aj,U.al]
def Step.GL(d:Holds t f l)(b:f.read e=β g):∃k,Step t f l k (f.set e (.ro g)) l:=by
 unfold U.read at b;split at b
 .rename_i h c;obtain rfl:=Δ b;exact Step.freeze d c
 .rename_i h c;obtain rfl:=Δ b;rw[zi c];exact⟨t,.refl d⟩
 .rename_i T h c;obtain rfl:=Δ b;exact Step.uU d (.inr (.inl ⟨T,c⟩))
 .rename_i h c;obtain rfl:=Δ b;exact Step.uU d (.inr (.inr c))
 .cases b
theorem zj(V:TypeId)(x:Operand)(y z:Option Operand)(l1:o.op=.slice V x y z ε)(h:Nat)(r:TypeId)(p:m.underlying V=β (.array h r))(b:Nat)(w:(m.info? r).map (·.size)=β b)(F:0<b)(W:Bool)(A:aJ x=η)(B:y.all aJ=η)
  (H:z.all aJ=η) (L:bE t a j) (P:Holds t f l) (c:G ⟨m,s⟩ (.kr b h x y z W) j f Z):bL m s o a l t f Z:=by
 have e:=L.ah x A;simp only[G]at c;split at c
 case h_2=>trivial
 rename_i C D I;rw[I]at e;split at c
 case h_2=>trivial
 rename_i d k K M;obtain⟨N,O,Q,c⟩:=c;split at c
 case h_2=>trivial
 rename_i X g;obtain⟨l2,c⟩:=c;have l3:=e.iQ;have Y:=zh (m:=m) ι h h y z d k (by simpa using fF L B K) (fF L H M) N O Q (a3w _) l;simp only[valOf]at Y;obtain⟨k0,l4,T,l5,l6,l7⟩:=P.read g;have i:(execOp a.eval o).run m l=.ok (.value (.slice (β (if h=d.toNat then⟨C,D,ε⟩else⟨C,D+d.toNat*b,ε⟩)) (k.toNat - d.toNat) (h - d.toNat))) l:=by
  cases k2:m.info? r with
  |none=>simp[k2]at w
  |some ii=>simp_all [execOp,Instr.sliceAt,run_underlying,Instr.sureAddr,sizeOf,typeInfo,gM]
 cases W with
 |true=>
  simp only[if_true]at c;obtain⟨l8,n⟩:=Step.GL P g;refine .value i n ?_ c;obtain⟨_,k3,l9,_,n0,q,k4⟩:=n.holds.cM C _ (U.aj _ _ _);have n1:k.toNat*b<=h*b:=a3g _ δ;have n2:(k.toNat - d.toNat)*b+d.toNat*b=k.toNat*b:=by rw[<-a3U];congr 1;omega
  have k5:∀E∈X.drop (D+d.toNat*b),E.one=true:=λE u=>k0 E (a3v u);obtain⟨k6,k7,v⟩:=vc (i:=k.toNat - d.toNat) F Κ k5;by_cases k8:d.toNat=k.toNat
  .have r:=a2Y (by rw[v];omega);rw[r,k8,a5d];exact .cX _ _ _ (λk9=>by simp at k9) trivial
  .rw[if_neg δ];refine .J C _ _ _ b (λS=>k3.getD (D+d.toNat*b+S) undef) _ .any F v.symm δ k6 (λE u=>?_) (λS n3=>?_) (λS l0 p=>?_) trivial;grind
   .refine k4 _ ?_;have:=q.1;omega
   .rw[k7,List.getElem?_take]at p;split at p
    .rw[a5M]at p;exact q.2 _ l0 p
    .cases p
 |false=>simp only[a3R,if_false]at c;refine .same P i ?_ c.2;rw[if_neg δ];exact .bB _ _ _ _ _ F δ
theorem zk(h:List Value):∀(b c:Nat)(d:Array Value),c+b+α h<=d.size->
  (h.zipIdx b).foldl (λ(r:Array Value) (k:Value×Nat)=>r.setIfInBounds (c+k.2) k.1) d=cS d (c+b) h:=by
 induction h with
 |nil=>intro b c d p;apply a6Z;simp[cS]
 |cons y h ih=>
  intro b c d p;simp only[a3e]at p;rw[List.zipIdx_cons,a3I,ih (b+1) c _ Κ];apply a6Z;simp only[cS,Array.toList_setIfInBounds,a3e];have x:c+b<α d.toList:=Κ;rw[a4e,if_pos x];have z:(d.toList.take (c+b)).length=c+b:=by simp only[a2X];omega
  rw[show c+(b+1)=(d.toList.take (c+b)).length+1 by omega,a5z];rw[show(d.toList.take (c+b)).length+1+α h=(d.toList.take (c+b)).length+(α h+1) by omega,a5A];grind[List.append_assoc,List.drop_drop]
theorem zl(F:Nat->Option (Nat×Nat))(C:bb):∀(r:List (Nat×Operand))(res:List (Nat×Nat×Operand))(b:Array Value)(c:Χ)(x:Χ->Prop),
  α r=α res->(∀(p:Nat)(d:Nat×Operand)(h:Nat×Nat×Operand),r[p]?=β d->res[p]?=β h->F d.1=β (h.1,h.2.1)/\d.2=h.2.2/\aJ d.2=η/\0<h.2.1)->bE C a j->bn C b c->(∀y∈c,y.one=η)->jH j c res x->
  ∃D z,Instr.fill F b (r.map λd=>(d.1,a.eval d.2))=β D/\bn C D z/\(∀y∈z,y.one=η)/\x z
 |[],[],b,c,x,_,_,_,E,G,L=>⟨b,c,rfl,E,G,L⟩
 |(t,k)::r,(off,cn,u)::res,b,c,x,f,P,S,E,G,L=>by
  obtain⟨T,V,W,g⟩:=P 0 _ _ rfl rfl;simp only at T V W g;subst V;obtain⟨i,v,l⟩:=L;obtain⟨e,c2⟩:=(S.ah k W).cells δ;have w:(a.eval k).cells.size=cn:=by rw[e.1,i]
  obtain⟨D,z,m,n,q,s⟩:=zl F C r res (cS b off (a.eval k).cells.toList) (putAt c off (ah j k).cells) x (by simpa using f) (λp d h A B=>P (p+1) d h (by trivial) (by trivial)) S
   (E.putAt e off δ) (sC G c2 off) l
  refine⟨D,z,?_,n,q,s⟩;simp only[a3q,Instr.fill,T];have H:off+(a.eval k).cells.size<=b.size:=by have:=E.1;omega
  rw[if_neg Κ];rw[show(a.eval k).cells.zipIdx.foldl (λc (y,p)=>c.setIfInBounds (off+p) y) b=cS b off (a.eval k).cells.toList by
   rw[<-Array.foldl_toList,a7e];simp_all [zk]]
  exact m
def GM(k:TypeId)(c:Array (Nat×Operand))(D:o.op=.build k c)(x:Nat->Option (Nat×Nat))(b:Array Value)(p:List (Nat×Nat×Operand))
  (E:∀y:List (Nat×Value),m.built k y=Instr.fill x b y) (F:∀d∈b.toList,d.oneCell'=η) (L:α c.toList=α p)
  (P:∀(z:Nat)(r:Nat×Operand)(h:Nat×Nat×Operand),c.toList[z]?=β r->p[z]?=β h->x r.1=β (h.1,h.2.1)/\r.2=h.2.2/\aJ r.2=η/\0<h.2.1)
  (S:bE t a j) (T:Holds t f l) (V:G ⟨m,s⟩ (.ll (b.toList.map cv) p) j f Z):bL m s o a l t f Z:=by
 obtain⟨W,w,e,C,g,i⟩:=zl x t c.toList p b (b.toList.map cv) (λn=>Z (.agg n) f) L P S (bn.om t b F) (λA q=>by obtain⟨d,_,rfl⟩:=a3m.1 q;exact ng d) V;have u:m.built k (c.map λ(v,d)=>(v,a.eval d)).toList=β W:=by rw[E,a5l];exact e
 exact .same T (by simp only[execOp,D,Sem.run_bind,run_build l k _ _ u];rfl) (.agg _ _ g C.1 C.2) i
theorem vd{b:Nat}(T:0<b):∀(p:List Operand)(c:Nat)(k:Array Value)(d:Χ),(∀h∈p,aJ h=η)->bE t a j->bn t k d->(∀r∈d,r.one=η)->(∀C∈p.map (ah j),α C.cells=b)->α d=(c+α p)*b->
  ∃y x,Instr.fill (λc=>β (c*b,b)) k ((p.zipIdx c).map λE=>(E.2,a.eval E.1))=β y/\bn t y x/\(∀r∈x,r.one=η)/\x=d.take (c*b)++flat (p.map (ah j))
 |[],c,k,d,_,_,z,D,_,hlen=>⟨k,d,rfl,z,D,by simp[flat];grind⟩
 |h::p,c,k,d,F,G,z,D,L,hlen=>by
  have V:(ah j h).cells.length=b:=L _ ρ;obtain⟨P,c2⟩:=(G.ah h (F h ρ)).cells δ;have n:(a.eval h).cells.size=b:=by rw[P.1,V]
  simp only[a3e]at hlen;have q:c*b+b<=α d:=by grind
  obtain⟨y,x,W,e,f,g⟩:=vd T p (c+1) (cS k (c*b) (a.eval h).cells.toList) (putAt d (c*b) (ah j h).cells) (λi l=>F i (by simp[l])) G (z.putAt P _ δ) (sC D c2 _)
   (λC S=>L C (by simp at S|-;exact .inr S)) (by grind[eh])
  refine⟨y,x,?_,e,f,?_⟩
  .simp only[List.zipIdx_cons,a3q,Instr.fill];have s:c*b+(a.eval h).cells.size<=k.size:=by have:=z.1;omega
   rw[if_neg Κ];rw[show(a.eval h).cells.zipIdx.foldl (λd (r,m)=>d.setIfInBounds (c*b+m) r) k=cS k (c*b) (a.eval h).cells.toList by
    rw[<-Array.foldl_toList,a7e];simp_all [zk]]
   exact W
  .rw[g];simp only[putAt,flat,a3q,a3A];have u:(d.take (c*b)++(ah j h).cells).length=(c+1)*b:=by rw[a3U];simp;omega
   grind
def zm(C:TypeId)(c:Nat)(D:Array (Nat×Value))(h:TypeId)(G:m.underlying C=β (.slice h))(b:TypeInfo)(E:m.info? h=β b)(r:Value)(L:b.zero=β r)(V:c*b.size<=2^24)(x:Array Value)(p:x=if c*b.size=0 then #[]else r.cells)
  (F:Array Value) (y:Instr.fill (λz=>β (z*b.size,b.size)) ((Array.range (c*b.size)).map (λz=>x[z%x.size]!)) D.toList=β F) (d:World):
  (Instr.buildSlice C c D).run m d=.ok (.slice (β ⟨d.heap.size,0,ε⟩) c c) (d.alloc (.cells F h)):=by
 have P:¬(c*b.size>2^24):=δ;have S:(sizeOf h).run m d=.ok b.size d:=by simp[sizeOf,typeInfo,E]
 have T:(zeroValue h).run m d=.ok r d:=by simp[zeroValue,typeInfo,E,L]
 unfold Instr.buildSlice;simp only[Sem.run_bind,run_underlying G,Result.andThen_ok,S];rw[if_neg P];by_cases k:c*b.size=0
 .rw[if_pos k]at p;subst p;simp only[k,if_true];rw[k]at y;rw[Sem.run_bind];simp only[Sem.run_pure,Result.andThen_ok,y];rfl
 .rw[if_neg k]at p;subst p;simp only[k,if_false];rw[Sem.run_bind];simp only[T,Result.andThen_ok];rw[Sem.run_bind];simp only[Sem.run_pure,Result.andThen_ok,y];rfl
theorem zn(g:TypeId)(c:Nat)(S:Array (Nat×Operand))(r:o.op=.buildSlice g c S)(x:TypeId)(i:m.underlying g=β (.slice x))(b:TypeInfo)(M:m.info? x=β b)(D:Value)(N:b.zero=β D)(k9:D.cells.size=b.size)(l0:∀d∈D.cells.toList,d.oneCell'=η)
  (T:0<b.size) (O:c*b.size<=2^24) (k:List Operand) (l1:S.toList=(k.zipIdx 0).map λF=>(F.2,F.1)) (E:α k=c) (Q:∀d∈k,aJ d=η)
  (X:bE t a j) (z:Holds t f l) (C:G ⟨m,s⟩ (.jv b.size k) j f Z):bL m s o a l t f Z:=by
 simp only[G]at C;obtain⟨n,C⟩:=C
 let gN:Array Value:=if c*b.size=0 then #[]else D.cells
 let y:Array Value:=(Array.range (c*b.size)).map (λh=>gN[h%gN.size]!);have Y:∀d∈y.toList,d.oneCell'=true:=by
  intro d q;by_cases L:c*b.size=0
  .simp[y,L]at q
  .have l2:gN=D.cells:=if_neg L;simp only[y,a5l,a3m]at q;obtain⟨h,_,rfl⟩:=q;grind[Nat.mod_lt]
 have k0:y.size=c*b.size:=by simp[y]
 obtain⟨p,l3,k2,B,k3,V⟩:=vd T k 0 y (y.toList.map cv) Q X (bn.om t y Y) (λH u=>by obtain⟨d,_,rfl⟩:=a3m.1 u;exact ng d) n (by simp[k0,E]);simp only[a6d,a4Q,a3l]at V;have k4:(S.map λ(h,d)=>(h,a.eval d)).toList=(k.zipIdx 0).map λF=>(F.2,a.eval F.1):=by simp_all
 have I:(execOp a.eval o).run m l=.ok (.value (.slice (β ⟨l.heap.size,0,ε⟩) c c)) (l.alloc (.cells p x)):=by have:=zm g c (S.map λ(h,d)=>(h,a.eval d)) x i b M D N O gN rfl p (by rw[k4];exact k2) l;simp only[execOp,r,Sem.run_bind,this];rfl
 by_cases L:α k=0
 .rw[if_pos L]at C;have k5:c=0:=δ;subst k5;refine .value I (b:=t.ext l.heap.size 0 p) ?_ (.cX _ _ .zero (λl4=>by rfl) rfl) C;have W:=Step.write (h7:=l.alloc (.cells p x)) z l.heap.size 0 p x f rfl rfl rfl ρ (heap_alloc_new l _) (λw _ A=>pv l _ w A) (.inl rfl)
   (a3N _) (λo v P=>by rw[z.lZ]at P;cases P) (λk6 o K e=>e)
   (λo r=>by rw[z.dQ]at r;cases r)
  exact W
 .rw[if_neg L]at C;have k7:p.size=c*b.size:=by rw[B.1,V,cT n];simp[E]
  have W:=Step.write (h7:=l.alloc (.cells p x)) z l.heap.size (c*b.size) p x (f.set l.heap.size (.buf b.size (α k) (α k))) rfl rfl rfl ρ (heap_alloc_new l _) (λw _ A=>pv l _ w A) (.inl rfl)
   δ (λo v P=>by rw[z.lZ]at P;cases P) (λk6 o K e=>by rw[U.al _ _ K]at e;exact e)
   (λo r=>by
    rw[U.aj]at r;obtain rfl:=Δ r;refine⟨T,a3w _,?_,p,x,heap_alloc_new l _,by rw[k7,E],λo r=>?_⟩
    .have:α k*1<=c*b.size:=by rw[E];exact a7f _ T
     unfold maxLen;omega
    .rw[bb.oh _ _ _ _ (by rw[E]at r;omega)];exact z.lZ o)
  refine .value I W ?_ (C _ z.dQ);refine .J _ _ _ _ b.size (λh=>p.getD h undef) _ _ T (by simp[E]) δ n (λH u=>k3 H (by rw[V];exact u)) (λh l5=>?_) (λh k8 i=>?_) ⟨rfl,rfl,δ⟩;simp_all [bb.og]
  .exact((B.2 h k8 (by rw[V];exact i))).mono W.le
theorem GN(E:TypeId)(d:Nat)(z:Array (Nat×Operand))(V:o.op=.buildSlice E d z)(r:TypeId)(W:m.underlying E=β (.slice r))(b:TypeInfo)(e:m.info? r=β b)(p:Value)(g:b.zero=β p)(w:p.cells.size=b.size)(A:∀c∈p.cells.toList,c.oneCell'=η)
  (F:0<b.size) (i:d*b.size<=2^24) (h:List Operand) (B:z.toList=(h.zipIdx 0).map λC=>(C.2,C.1)) (L:α h=d) (n:∀c∈h,aJ c=η)
  (q:bE t a j) (P:Holds t f l) (x:G ⟨m,s⟩ (.jy b.size h) j f Z):bL m s o a l t f Z:=by
 simp only[G]at x;obtain⟨H,x⟩:=x;by_cases D:α h=0
 .rw[if_pos D]at x;refine zn E d z V r W b e p g w A F i h B L n q P ?_;simp_all [G]
 rw[if_neg D]at x
 let gN:Array Value:=if d*b.size=0 then #[]else p.cells
 let k:Array Value:=(Array.range (d*b.size)).map (λy=>gN[y%gN.size]!);have I:∀c∈k.toList,c.oneCell'=true:=by
  intro c S;by_cases D:d*b.size=0
  .simp[k,D]at S
  .have Y:gN=p.cells:=if_neg D;simp only[k,a5l,a3m]at S;obtain⟨y,_,rfl⟩:=S;grind[Nat.mod_lt]
 have K:k.size=d*b.size:=by simp[k]
 obtain⟨T,k0,M,N,k2,u⟩:=vd F h 0 k (k.toList.map cv) n q (bn.om t k I) (λO v=>by obtain⟨c,_,rfl⟩:=a3m.1 v;exact ng c) H (by simp[K,L]);simp only[a6d,a4Q,a3l]at u;have Q:(z.map λ(y,c)=>(y,a.eval c)).toList=(h.zipIdx 0).map λC=>(C.2,a.eval C.1):=by simp_all
 have X:(execOp a.eval o).run m l=.ok (.value (.slice (β ⟨l.heap.size,0,ε⟩) d d)) (l.alloc (.cells T r)):=by have:=zm E d (z.map λ(y,c)=>(y,a.eval c)) r W b e p g i gN rfl T (by rw[Q];exact M) l;simp only[execOp,V,Sem.run_bind,this];rfl
 subst L;refine .value X (Step.new P T r _ (λO v=>?_) ?_) (.aq _ _ _ _ F (a3w _)) (x _ P.dQ)
 .simp_all
 .rw[<-u];exact N
end
section
variable{o:Oper}{a:Act}
theorem aQ.src(T:aQ t e3 (.J g O))(V:Holds t f l)(D:∀W∈g,α W.cells=e)(E:Program):
  ∃x:List Value,Src E l e (α g) e3 x/\α x=(flat g).length/\(∀b c,(flat g)[b]?=β c->aQ t (x.getD b Go.undef) c)/\(∀y∈flat g,y.one=η):=by
 cases T with
 |cX d cap O bS i=>
  refine⟨[],⟨rfl,?_,?_,ρ⟩,rfl,λb c F=>by trivial,λy p=>by trivial⟩
  .cases d<;>simp[Builtin.firstCells,loadCells,loadCellsFrom]
  .cases d<;>simp[Builtin.firstCells,loadCells,loadCellsFrom]
 |J G off len cap h z xs O hk C s j m hH u i=>
  subst C;cases r:g with
  |nil=>subst r;refine⟨[],⟨rfl,?_,?_,ρ⟩,rfl,λb c F=>by trivial,λy p=>by trivial⟩<;>simp[Builtin.firstCells,loadCells,loadCellsFrom]
  |cons L w=>
   rw[<-r];have n:=(j L (by simp[r])).symm.trans (D L (by simp[r]));subst n;have C:=cT D;have p:∀(k),(∀d,k.cell? d=l.cell? d)->(Builtin.firstCells h (α g) (.slice (β ⟨G,off,ε⟩) (α g) cap)).run E k=.ok ((ψ (α g*h)).map z).toArray k:=λk q=>by
    refine run_firstCells_some k h (α g) ⟨G,off,ε⟩ (α g) cap _ ρ (λb v P=>?_);have S:b<α g*h:=by grind
    rw[a3u,a4Z S]at P;obtain rfl:z b=v:=by simpa using P
    rw[q,gM];exact V.ro _ _ _ (hH b S)
   refine⟨(ψ (α g*h)).map z,⟨rfl,p l (λ_=>rfl),p l.drew (λ_=>rfl),ρ⟩,by simp[C],λb c F=>?_,m⟩;grind
theorem ox(b c:Χ):flat (b++c)=flat b++flat c:=by simp[flat]
def ie(b c:Operand)(d h:TypeId)(k:o.op=.call {callee:=.builtin .append,args:=#[b,c],argTypes:=#[d,h]}){v:Value}
  (p:(Builtin.append_ #[d,h] o.type #[a.eval b,a.eval c]).run m l=.ok v h7):(execOp a.eval o).run m l=.ok (.value v) h7:=by
 simp[execOp,k,resolve,invoke,builtin,p]
theorem GO(n S:Operand)(r:TypeId)(p:o.op=.call {callee:=.builtin .append,args:=#[n,S],argTypes:=#[r,r]})(k:TypeId)(x:m.underlying r=β (.slice k))(b:TypeInfo)(O:m.info? k=β b)(H:Value)(l5:b.zero=β H)
  (a16:H.cells.size=b.size) (Q:0<b.size) (a18:aJ n=η) (a19:aJ S=η) (a01:bE t a j) (V:Holds t f l) (y:G ⟨m,s⟩ (.app b.size b.bytes n S) j f Z):bL m s o a l t f Z:=by
 have g:=a01.ah n a18;have a02:=a01.ah S a19;simp only[G]at y;split at y
 case h_2=>trivial
 rename_i d I h a65 K a27;rw[K]at g;rw[a27]at a02;obtain⟨a03,l6,a29,l0,y⟩:=y;obtain⟨z,q,a68,a30,a34⟩:=a02.src V l6 m;have a36:∀F∈z,F.oneCell'=true:=λF x=>by
  obtain⟨c,L⟩:=a5B x;have a04:c<(flat h).length:=by grind
  have:=a30 c _ (Ν a04);rw[a3L,L]at this;exact this.nd (a34 _ (a3r a04))
 have l7:=q.size;generalize X:a.eval n=a05 at g;have newRow:∀(k2:List Value)(W C:Nat)(u:Χ),α u=W->α k2=W*b.size->(∀k∈u,α k.cells=b.size)->(∀c F,(flat u)[c]?=β F->aQ t (k2.getD c undef) F)->(∀E∈flat u,E.one=η)->
   W+α h<=C->C<=maxLen->∀l1:U,l1.sub f->
   let i:=k2.toArray++z.toArray++Builtin.zeroCells H.cells (C -(W+α h))
   ∃k3,Step t f l k3 (l1.set l.heap.size (.buf b.size (W+α h) C)) (l.drew.alloc (.cells i k))/\aQ k3 (.slice (β ⟨l.heap.size,0,ε⟩) (W+α h) C) (.J (u++h) (.buf l.heap.size C)):=by
  intro k2 W C u l8 k4 a06 a69 a07 Y a38 l1 a42 i;have l9:i.size=C*b.size:=by simp only[i,Array.size_append,List.size_toArray,size_zeroCells,a16,k4,l7,<-a3U];congr 1;omega
  have l2:i.toList=k2++z++(Builtin.zeroCells H.cells (C -(W+α h))).toList:=by simp[i]
  have l3:(flat (u++h)).length=(W+α h)*b.size:=by rw[cT (d:=b.size)];(simp[l8]);grind
  have a43:∀c F,(flat (u++h))[c]?=β F->aQ t (i.getD c undef) F:=λc F x=>by
   rw[ox]at x;have a08:(flat u).length=W*b.size:=by rw[cT a06,l8]
   rw[a3J,<-a4v,l2];grind
  have a71:(W+α h)*b.size<=C*b.size:=a3g _ Y;have a47:=V.drew;have e:=Step.write (h7:=l.drew.alloc (.cells i k)) a47 l.heap.size ((W+α h)*b.size) i k (l1.set l.heap.size (.buf b.size (W+α h) C)) rfl rfl rfl ρ (heap_alloc_new l.drew _) (λk0 _ n0=>pv l.drew _ k0 n0) (.inl rfl)
   δ (λo v g=>by rw[V.lZ]at g;cases g) (λn1 o k5 k6=>by rw[U.al _ _ k5]at k6;exact a42 n1 o k6)
   (λo p=>by
    rw[U.aj]at p;obtain rfl:=Δ p;refine⟨Q,Y,a38,i,k,heap_alloc_new l.drew _,l9,λo p=>?_⟩;rw[bb.oh _ _ _ _ δ];exact V.lZ o)
  refine⟨_,(Step.drew V).trans e,?_⟩;refine .J _ _ _ _ b.size (λc=>i.getD c undef) _ _ Q (by simp[l8]) Y (λk K=>by grind) (λE n2=>by
   grind[ox]) (λc L=>?_) (λc F x=>(a43 c F x).mono e.le) ⟨rfl,rfl,rfl⟩
  rw[a3t,bb.og _ _ _ _ L];simp[show c<i.size by omega]
 cases I with
 |any=>trivial
 |nil=>
  obtain⟨rfl,y⟩:=y;have n3:a05=.slice ε 0 0:=by
   cases g with
   |cX w C I bS p=>simp only[Own.lh]at p;subst p;rw[bS rfl]
   |J k0 off len C n4 A d I Q l3 Y l6 a48 hH a09 p=>trivial
  subst n3;by_cases M:h=[]
  .subst M;rw[if_pos rfl]at y;have a10:=a2Y (by trivial);refine .same V (ie n S r r p ?_) (.cX _ _ .nil (λ_=>rfl) rfl) y;rw[X];have k7:=q.len;have k8:=q.cells;simp only[a3a]at k7 k8;simp[Builtin.append_,run_underlying x,sizeOf,typeInfo,O,k7,k8]
  .rw[if_neg M]at y;have a52:=a3T.2 M;have B:=px l r r o.type k b H x _ x (.inl ⟨k,rfl⟩) O l5 ε 0 0 [] ρ a7v (α h) (a.eval S) z q δ (by simp only[a3a]at l0;omega) (by trivial);simp only[a3t]at B;have n5:=grownCap_ge l (α h) 0 k;have k9:=grownCap_le_maxLen l (α h) 0 k (by unfold maxLen;simp only[a3a]at l0;omega);obtain⟨k3,e,N⟩:=newRow [] 0 (grownCap l (α h) 0 k) [] rfl ρ (λk K=>by simp at K) (λc F x=>by trivial) (λE n2=>by trivial) δ k9 f (λ_ _ n9=>n9);simp only[a3t,a3l]at e N;refine .value (ie n S r r p (by rw[X];exact B)) e N (y _ _ V.dQ)
 |zero=>
  obtain⟨rfl,y⟩:=y;have n3:∃w,a05=.slice w 0 0:=by
   cases g with
   |cX w C I bS p=>simp only[Own.lh]at p;subst p;simp
   |J k0 off len C n4 A d I Q l3 Y l6 a48 hH a09 p=>trivial
  obtain⟨w,rfl⟩:=n3;by_cases M:h=[]
  .subst M;rw[if_pos rfl]at y;have a10:=a2Y (by trivial);refine .same V (ie n S r r p (v:=.slice w 0 0) ?_) (.cX _ _ .zero (λ_=>rfl) rfl) y;rw[X];have k7:=q.len;have k8:=q.cells;simp only[a3a]at k7 k8;subst a10;cases w<;>simp[Builtin.append_,run_underlying x,sizeOf,typeInfo,O,k7,k8,storeCells]
  .rw[if_neg M]at y;have a52:=a3T.2 M;have B:=px l r r o.type k b H x _ x (.inl ⟨k,rfl⟩) O l5 w 0 0 [] ρ (by cases w<;>simp[Builtin.firstCells,loadCells,loadCellsFrom]) (α h) (a.eval S) z q δ (by simp only[a3a]at l0;omega) (by trivial);simp only[a3t]at B;have n5:=grownCap_ge l (α h) 0 k;have k9:=grownCap_le_maxLen l (α h) 0 k (by unfold maxLen;simp only[a3a]at l0;omega);obtain⟨k3,e,N⟩:=newRow [] 0 (grownCap l (α h) 0 k) [] rfl ρ (λk K=>by simp at K) (λc F x=>by trivial) (λE n2=>by trivial) δ k9 f (λ_ _ n9=>n9);simp only[a3t,a3l]at e N;refine .value (ie n S r r p (by rw[X];exact B)) e N (y _ _ V.dQ)
 |buf P E=>
  obtain⟨a11,y⟩:=y;obtain⟨_,a73,a56,D,T,a00,a13,a74⟩:=V.cM P _ a11;cases g with
  |cX w C I bS p=>trivial
  |J k0 off len C n4 A d I a81 l3 Y a06 a07 hH a09 p=>
   obtain⟨rfl,rfl,rfl⟩:=p;subst l3;have a83:α d*n4=α d*b.size:=by
    cases a84:d with
    |nil=>simp
    |cons fX a86=>simp_all
   have a14:∀c,c<α d*b.size->t P c=β (A c):=λc L=>by
    simp_all
   have a57:∀c,c<α d*b.size->D[c]?=β (A c):=λc L=>by
    have:=V.ro _ _ _ (a14 c L);grind[cell_of_row]
   have a88:α d*b.size<=D.size:=by rw[a13];grind
   by_cases l4:α d+α h<=E
   .
    have a15:α d*b.size+α z<=D.size:=by rw[l7,a13,<-a3U];exact a3g _ l4
    have B:=za l r r o.type k b x _ x (.inl ⟨k,rfl⟩) O P (α d) E D T _ a00 (uV _) (α h) (a.eval S) z q a36 l4 a15;have l9:(cS D (α d*b.size) z).size=D.size:=by simp[cS];omega
    have l2:(cS D (α d*b.size) z).toList=D.toList.take (α d*b.size)++z++D.toList.drop (α d*b.size+α z):=by rfl
    have a89:∀c,c<α d*b.size->(cS D (α d*b.size) z)[c]?=β (A c):=λc L=>by
     rw[<-a4v,l2,a3o,a4D Κ,a3O L,a4v];exact a57 c L
    have a08:=cT a03;have e:=Step.write (h7:=l.setRow P (cS D (α d*b.size) z)) V P ((α d+α h)*b.size) (cS D (α d*b.size) z) T ((f.del P).set P (.buf b.size (α d+α h) E)) rfl rfl rfl ρ (setRow_heap l P D _ T _ a00)
     (λk0 _ n0=>setRow_other l P k0 _ n0) (.inr (by simp[a11])) (by rw[l9,a3U,<-l7];exact a15)
     (λo v g=>by
      grind)
     (λn1 o k5 k6=>by rw[U.al _ _ k5,U.eg _ k5]at k6;exact k6)
     (λo p=>by
      rw[U.aj]at p;obtain rfl:=Δ p;refine⟨Q,l4,a56,_,T,setRow_heap l P D _ T _ a00,δ,λo p=>?_⟩;grind[bb.oh,Nat.le_trans,Nat.mul_le_mul_right])
    refine .value (ie n S r r p (by rw[X];exact B)) e ?_ (y P E (.inl rfl));refine .J _ _ _ _ b.size (λc=>(cS D (α d*b.size) z).getD c undef) _ _ Q ρ l4 (λk K=>by grind) (λE n2=>by
     grind[ox]) (λc L=>?_) (λc F x=>?_) ⟨rfl,rfl,rfl⟩
    .rw[a3t,bb.og _ _ _ _ L];have:c<(cS D (α d*b.size) z).size:=by grind
     simp[this]
    .refine aQ.mono e.le ?_;rw[ox]at x;by_cases L:c<α d*b.size
     .rw[a4D δ]at x;simp_all
     .rw[a5D δ,a08]at x;have a61:c - α d*b.size<α z:=by grind
      have a62:(D.toList.take (α d*b.size)).length=α d*b.size:=Κ;rw[a3J,<-a4v,l2,a3o,a5D δ,a62,a4D a61];grind
   .
    have k4:((ψ (α d*b.size)).map A).length=α d*b.size:=ρ;have a63:(Builtin.firstCells b.size (α d) (.slice (β ⟨P,0,ε⟩) (α d) E)).run m l.drew=.ok ((ψ (α d*b.size)).map A).toArray l.drew:=by
     refine run_firstCells_some l.drew b.size (α d) ⟨P,0,ε⟩ (α d) E _ k4 (λc v g=>?_);have L:c<α d*b.size:=by grind
     rw[a3u,a4Z L]at g;obtain rfl:A c=v:=by simpa using g
     rw[gM,a3t];exact V.ro _ _ _ (a14 c L)
    have B:=px l r r o.type k b H x _ x (.inl ⟨k,rfl⟩) O l5 (β ⟨P,0,ε⟩) (α d) E _ k4 a63 (α h) (a.eval S) z q δ δ a29;have n5:=grownCap_ge l (α d+α h) E k;have k9:=grownCap_le_maxLen l (α d+α h) E k (by unfold maxLen;omega);obtain⟨k3,e,N⟩:=newRow ((ψ (α d*b.size)).map A) (α d) (grownCap l (α d+α h) E k) d rfl k4 a03 (λc F x=>by
      grind[cT,Ε,List.getD]) a07 n5 k9 (f.del P) (λn1 o k5=>by
      grind[U.hC,U.eg])
    exact .value (ie n S r r p (by rw[X];exact B)) e N (y _ _ (.inr V.dQ))
theorem ve(G:aQ t e3 q)(S:Holds t f l)(b:c8 f e q=β (i,g))(D:Program):
  ∃p:List Value,Src D l e i e3 p/\α p=α g/\(∀k r,g[k]?=β r->aQ t (p.getD k Go.undef) r)/\(∀z∈g,z.one=η):=by
 have n:∀(y d c x)(h),f.read y=β h->d+c*e<=α h->
   ∃p:List Value,Src D l e c (.slice (β ⟨y,d,ε⟩) c x) p/\α p=((h.drop d).take (c*e)).length/\(∀k r,((h.drop d).take (c*e))[k]?=β r->aQ t (p.getD k Go.undef) r)/\(∀z∈(h.drop d).take (c*e),z.one=η):=by
  intro y d c x h E L;obtain⟨s,P,T,A,B,V⟩:=S.read E;have H:=V.1;have u:((P.toList.drop d).take (c*e)).length=c*e:=Κ;have W:∀(F),(∀j,F.cell? j=l.cell? j)->(Builtin.firstCells e c (.slice (β ⟨y,d,ε⟩) c x)).run D F=.ok ((P.toList.drop d).take (c*e)).toArray F:=λF I=>by
   grind[run_firstCells_some,Ε,gM,cell_of_row,List.getElem?_take_of_lt]
  refine⟨(P.toList.drop d).take (c*e),⟨rfl,W l (λ_=>rfl),W l.drew (λ_=>rfl),u⟩,Κ,λk r m=>?_,λz C=>s z (a3v (a3j C))⟩;have v:k<c*e:=by grind
  rw[a3O v,a5M]at m;have:=V.2 (d+k) r m;grind[Ε,List.getElem?_take_of_lt,Array.getD_eq_getD_getElem?]
 unfold c8 at b;split at b
 .rename_i K M;split at b
  case isFalse=>cases b
  rename_i N;simp only[a3c,a4h]at b;obtain⟨rfl,rfl⟩:=b;exact G.src S (by simp_all) D
 .split at b
  case h_2=>cases b
  rename_i h E;split at b
  case isFalse=>cases b
  rename_i C;simp only[a3c,a4h]at b;obtain⟨rfl,rfl⟩:=b;obtain⟨rfl,L⟩:=C;cases G with
  |aq y c x e hk w=>have O:=λx=>n _ 0 _ x h E (by rw[a3t];exact L);simp_all
 .split at b
  case h_2=>cases b
  rename_i h E;split at b
  case isFalse=>cases b
  rename_i C;simp only[a3c,a4h]at b;obtain⟨rfl,rfl⟩:=b;obtain⟨rfl,L⟩:=C;cases G with
  |bB y d c x e hk w=>simp_all
 .cases b
def GP(z:aQ t e3 q)(F:Holds t f l)(c:mm f e q=β (i,g))(r:Program):
  ∃x:List Value,Src r l e i e3 x/\α x=α g/\(∀h k,g[h]?=β k->aQ t (x.getD h Go.undef) k)/\(∀C∈g,C.one=η):=by
 unfold mm at c;split at c
 .rename_i b;split at c
  case isFalse=>cases c
  rename_i G;simp only[a3c,a4h]at c;obtain⟨rfl,rfl⟩:=c;subst G;obtain rfl:=z.dq;have P:α b.data.toList=b.size:=ρ;have D:∀y:World,(Builtin.firstCells 1 b.size (.string b)).run r y=.ok (b.data.toList.map λd=>Value.int .u8 d.toNat).toArray y:=λy=>by
   simp only[Builtin.firstCells,Sem.run_pure];have:b.extract 0 b.size=b:=ρ;rw[this];congr 1;apply a6Z;simp
  refine⟨b.data.toList.map λd=>Value.int .u8 d.toNat,⟨rfl,D l,D l.drew,ρ⟩,ρ,λh k p=>?_,λC L=>?_⟩
  .rw[a3u]at p;rw[a3L,a3u];cases E:b.data.toList[h]? with
   |none=>simp[E]at p
   |some d=>
    rw[E]at p;obtain rfl:ao d=k:=by simpa using p
    exact .v _ rfl
  .obtain⟨d,_,rfl⟩:=a3m.1 L;rfl
 .exact ve z F c r
theorem zo(h:∀b∈j7.toList,b.oneCell'=η)(d:Nat):∀b∈(Builtin.zeroCells j7 d).toList,b.oneCell'=true:=by intro b c;unfold Builtin.zeroCells at c;simp only[a5l,a3m]at c;obtain⟨k,p,rfl⟩:=c;grind[Nat.eq_zero_or_pos,Nat.mod_lt]
theorem zp(z C:Operand)(D E:TypeId)(I:TypeDesc)(Y:m.underlying E=β I)(k0:(∃a11,I=.slice a11)\/I=.string)(e:o.op=.call {callee:=.builtin .append,args:=#[z,C],argTypes:=#[D,E]})(r:TypeId)(K:m.underlying D=β (.slice r))(c:TypeInfo)(k2:m.info? r=β c)(M:Value)(a01:c.zero=β M)
    (a36:M.cells.size=c.size) (a38:∀z∈M.cells.toList,z.oneCell'=η) (k3:0<c.size) (a42:aJ z=η) (a43:aJ C=η) (a13:bE t a j) (P:Holds t f l) (h:G ⟨m,s⟩ (.lp c.size c.bytes z C) j f Z):bL m s o a l t f Z:=by
  have A:=a13.ah z a42;have a47:=a13.ah C a43;simp only[G]at h;split at h
  case h_2=>trivial
  rename_i k B a48;obtain⟨g,N,a02,a52,n3⟩:=GP a47 P a48 m;have a14:∀n4∈g,n4.oneCell'=true:=λn4 K=>by
    obtain⟨S,a03⟩:=a5B K;have a15:S<α B:=by grind
    have:=a52 S _ (Ν a15);rw[a3L,a03]at this;exact this.nd (n3 _ (a3r a15))
  have a16:=N.size;have a04:bn t g.toArray B:=bn.dG.2 ⟨by trivial,λS a18 n4 a88 a89=>by
    grind⟩
  generalize k4:a.eval z=a18 at A;have newRow:∀(n5:List Value)(b d:Nat)(F:Χ),α n5=b*c.size->bn t n5.toArray F->(∀i∈F,i.one=η)->b+k<=d->
      let y:=n5.toArray++g.toArray++Builtin.zeroCells M.cells (d -(b+k))
      ∃n:Χ,α n=(d -(b+k))*c.size/\Step t f l t (f.set l.heap.size (.cells (F++B++n))) (l.drew.alloc (.cells y r)):=by
    intro n5 b d F O l0 k5 l1 y;have a56:=zo a38 (d -(b+k));have V:=bn.om t _ a56;refine⟨(Builtin.zeroCells M.cells (d -(b+k))).toList.map cv,by simp[size_zeroCells,a36],?_⟩;refine(Step.drew P).trans (Step.new P.drew y r _ (λi W=>?_) ?_)
    . simp only[a3f,a3m]at W
      rcases W with (W|W)|⟨z,_,rfl⟩
      . exact k5 i W
      . exact n3 i W
      . exact ng z
    . rw[bn.dG]at l0 a04 V|-
      grind
  split at h
  . rename_i a57 n9 l2
    rw[l2]at A;obtain⟨rfl,a19,H,k6,h⟩:=h;have a61:∃Q,a18=.slice Q 0 0/\(n9=.nil->Q=ε):=by
      cases A with
      |cX Q d n9 bS e=>
        rcases a19 with rfl|rfl
        . simp only[Own.lh]at e;simp[*]
        . simp only[Own.lh]at e;simp[*]
      |J a90 L len d a27 a92 a57 n9 k3 hlen l1 a94 k5 hH a95 e=>rcases a19 with rfl|rfl<;>exact e.elim
    obtain⟨Q,rfl,a96⟩:=a61;by_cases a29:k=0
    . subst a29
      rw[if_pos rfl]at h;have a62:g=[]:=a2Y (by simpa using a16);subst a62;have a63:aQ t (.slice Q 0 0) (.J [] n9):=by omega
      refine .same P (ie z C D E e ?_) a63 h;rw[k4];have a65:=N.len;have a68:=N.cells;rcases k0 with⟨a11,rfl⟩|rfl<;>cases Q<;>simp[Builtin.append_,run_underlying K,run_underlying Y,sizeOf,typeInfo,k2,a65,a68,storeCells]
    . rw[if_neg a29]at h
      have V:=px l D E o.type r c M K I Y k0 k2 a01 Q 0 0 [] ρ (by cases Q<;>simp[Builtin.firstCells,loadCells,loadCellsFrom]) k (a.eval C) g N δ δ (by simpa using H);simp only[a3t]at V;have u:=grownCap_ge l k 0 r;have l3:=grownCap_le_maxLen l k 0 r (by unfold maxLen;omega);obtain⟨n,k7,k8⟩:=newRow [] 0 (grownCap l k 0 r) [] ρ ⟨rfl,λS n4 a69=>by simp at a69⟩ (λi W=>by simp at W) δ;simp only[a3t,a3l]at k8 k7;exact .value (ie z C D E e (by rw[k4];exact V)) k8 (.aq _ _ _ _ k3 u) (h _ _ n P.dQ u l3 k7)
  . rename_i x b d a30 l2
    rw[l2]at A;have a34:∀(p:Χ)(a05:Χ->bl),f.read x=β p->a30=c.size->α p=d*c.size->(b+k)*c.bytes<=140737488355328->b+k<=9223372036854775807->
        (∀(F:Χ)(k9:Array Value),bn t k9 F->(∀i∈F,i.one=η)->b*c.size+α F<=α p->∃y T l4,l.heap[x]?=β (.cells y T l4)/\(∀S,S<y.size->¬(l4.1<=S/\S<l4.2))/\y.size=α p/\Step t f l t (f.set x (a05 (putAt p (b*c.size) F))) (l.setRow x (cS y (b*c.size) k9.toList)))->
        (if b+k<=d then Z (.aq x (b+k) d c.size) (f.set x (a05 (putAt p (b*c.size) B)))
           else∀a06 a00 n,f a06=ε->b+k<=a00->a00<=maxLen->α n=(a00 -(b+k))*c.size->Z (.aq a06 (b+k) a00 c.size) (f.set a06 (.cells (p.take (b*c.size)++B++n))))->bL m s o a l t f Z:=by
      clear h;intro p a05 w l5 X H k6 a71 h;subst l5;obtain⟨k5,y,T,l4,a73,l6⟩:=P.read w;have a74:=l6.1;cases A with
      |aq x b d a27 a81 l1=>
        have a83:b*c.size<=α p:=by rw[X];exact a3g _ l1
        by_cases q:b+k<=d
        . rw[if_pos q]at h
          have l7:b*c.size+α B<=α p:=by rw[<-a02,a16,X,<-a3U];exact a3g _ q
          obtain⟨l8,l9,a84,n0,a86,n1,n2⟩:=a71 B g.toArray a04 n3 l7;have V:=za l D E o.type r c K I Y k0 k2 x b d l8 l9 a84 n0 a86 k (a.eval C) g N a14 q (by rw[n1,a02];exact l7);exact .value (ie z C D E e (by rw[k4];exact V)) n2 (.aq _ _ _ _ k3 q) h
        . rw[if_neg q]at h
          have O:(y.toList.take (b*c.size)).length=b*c.size:=Κ;have a07:(Builtin.firstCells c.size b (.slice (β ⟨x,0,ε⟩) b d)).run m l.drew=.ok (y.toList.take (b*c.size)).toArray l.drew:=by
            refine run_firstCells_some l.drew c.size b ⟨x,0,ε⟩ b d _ O (λS v A=>?_);have a03:S<b*c.size:=by grind
            rw[gM,a3t];show l.cell? _= _;grind[cell_of_row,List.getElem?_take_of_lt]
          have V:=px l D E o.type r c M K I Y k0 k2 a01 (β ⟨x,0,ε⟩) b d _ O a07 k (a.eval C) g N δ δ H;have u:=grownCap_ge l (b+k) d r;have l3:=grownCap_le_maxLen l (b+k) d r (by unfold maxLen;omega);have l0:bn t (y.toList.take (b*c.size)).toArray (p.take (b*c.size)):=by rw[bn.dG]at l6|-;grind
          obtain⟨n,k7,k8⟩:=newRow _ b (grownCap l (b+k) d r) (p.take (b*c.size)) O l0 (λi W=>k5 i (a3j W)) u;exact .value (ie z C D E e (by rw[k4];exact V)) k8 (.aq _ _ _ _ k3 u) (h _ _ n P.dQ u l3 k7)
    split at h
    . rename_i p w
      obtain⟨l5,X,H,k6,h⟩:=h;refine a34 p .cells (by simp[U.read,w]) l5 X H k6 (λF k9 a08 a09 a10=>?_) h;obtain⟨l8,l9,n0,n1,n2⟩:=Step.store P w (b*c.size) F k9 a08 a09 a10;grind
    . rename_i p w
      obtain⟨l5,X,H,k6,h⟩:=h;refine a34 p .eZ (by simp[U.read,w]) l5 X H k6 (λF k9 a08 a09 a10=>?_) h;obtain⟨l8,l9,n0,n1,n2⟩:=Step.Ga P w (b*c.size) F k9 a08 a09 a10;grind
    . trivial
  . rename_i x L b d a30 l2
    rw[l2]at A;split at h
    case h_2=>trivial
    rename_i p w;obtain⟨rfl,X,H,k6,h⟩:=h;obtain⟨k5,y,T,l4,a73,l6⟩:=P.read (l:=x) (p:=p) (by simp[U.read,w]);have a74:=l6.1;cases A with
    |bB x L b d a27 a81 l1=>
      have a83:b*c.size<=d*c.size:=a3g _ l1;by_cases q:b+k<=d
      . rw[if_pos q]at h
        have l7:L+b*c.size+α B<=α p:=by have:=a3g c.size q;grind
        obtain⟨l8,l9,n0,n1,n2⟩:=Step.store P w (L+b*c.size) B g.toArray a04 n3 l7;have V:=Gd l D E o.type r c K I Y k0 k2 x L b d l8 l9 _ n0 (uV _) k (a.eval C) g N a14 q (by rw[n1,a02];exact l7);exact .value (ie z C D E e (by rw[k4];exact V)) n2 (.bB _ _ _ _ _ k3 q) h
      . rw[if_neg q]at h
        have O:((y.toList.drop L).take (b*c.size)).length=b*c.size:=Κ;have a07:(Builtin.firstCells c.size b (.slice (β ⟨x,L,ε⟩) b d)).run m l.drew=.ok ((y.toList.drop L).take (b*c.size)).toArray l.drew:=by
          refine run_firstCells_some l.drew c.size b ⟨x,L,ε⟩ b d _ O (λS v A=>?_);have a03:S<b*c.size:=by grind
          rw[gM];show l.cell? _= _;grind[cell_of_row,List.getElem?_take_of_lt]
        have V:=px l D E o.type r c M K I Y k0 k2 a01 (β ⟨x,L,ε⟩) b d _ O a07 k (a.eval C) g N δ δ H;have u:=grownCap_ge l (b+k) d r;have l3:=grownCap_le_maxLen l (b+k) d r (by unfold maxLen;omega);have l0:bn t ((y.toList.drop L).take (b*c.size)).toArray ((p.drop L).take (b*c.size)):=by rw[bn.dG]at l6|-;grind
        obtain⟨n,k7,k8⟩:=newRow _ b (grownCap l (b+k) d r) ((p.drop L).take (b*c.size)) O l0 (λi W=>k5 i (a3v (a3j W))) u;exact .value (ie z C D E e (by rw[k4];exact V)) k8 (.aq _ _ _ _ k3 u) (h _ _ n P.dQ u l3 k7)
  . trivial
end
variable{b0:Type}
section
variable{o:Oper}{a:Act}
def U.set_set(c:U)(b:Nat)(h d:bl):(c.set b h).set b d=c.set b d:=by funext k;simp only[U.set];split<;>rfl
theorem GQ(c:TypeId)(b:Operand)(r:o.op=.box c b)(x:aJ b=η)(y:bE t a j)(d:Holds t f l)(h:G ⟨m,s⟩ (.kp c b) j f Z):bL m s o a l t f Z:=by obtain⟨z,C⟩:=(y.ah b x).cells h.1;have k:=Step.new d (a.eval b).cells c _ C z;obtain⟨D,p⟩:=Step.freeze k.holds (U.aj f l.heap.size (.cells (ah j b).cells));rw[U.set_set]at p;refine .value ?_ (k.trans p) (.ptr _ _) (h.2 _ d.dQ);simp[execOp,r,Instr.box,newVar,newRow]
theorem GR(p:TypeId)(c:Operand)(d h:Option Operand)(y:o.op=.slice p c d h ε)(r:Nat)(x:TypeId)(z:m.underlying p=β (.array r x))(k:Nat)(C:(m.info? x).map (·.size)=β k)(D:0<k)(E:aJ c=η)(F:d.all aJ=η)
  (L:h.all aJ=η) (P:bE t a j) (S:Holds t f l) (b:G ⟨m,s⟩ (.jw k r c d h) j f Z):bL m s o a l t f Z:=by
 refine zj p c d h y r x z k C D η E F L P S ?_;simp only[G]at b|-;split at b
 case h_2=>trivial
 rename_i V W e;split at b
 case h_2=>trivial
 refine⟨b.1,b.2.1,b.2.2.1,?_⟩;have T:=b.2.2.2;split at T
 case h_2=>trivial
 simp_all [U.read,zi]
theorem zq(d:Bool)(D:IntKind)(b c:Operand)(E:Array TypeId)(k:o.op=.call {callee:=.builtin (if d then .max else .min),args:=#[b,c],argTypes:=E})(F:aJ b=η)(L:aJ c=η)(p:bE t a j)(r:Holds t f l)(h:G ⟨m,s⟩ (.lo d D b c) j f Z):bL m s o a l t f Z:=by
 have x:=p.ah b F;have y:=p.ah c L;simp only[G]at h;split at h
 case h_2=>trivial
 rename_i bm T V W P S;rw[P]at x;rw[S]at y;have z:=x.dq;have C:=y.dq;obtain⟨rfl,e⟩:=h;cases d
 .refine .same r ?_ (.v _ rfl) (by trivial);simp only[execOp,k,resolve,invoke,builtin,a3R,if_false,Sem.run_bind,Sem.run_pure,Result.andThen_ok,List.map_toArray,a3q,a4L,z,C,run_min_int2];grind
 .refine .same r ?_ (.v _ rfl) (by trivial);simp only[execOp,k,resolve,invoke,builtin,if_true,Sem.run_bind,Sem.run_pure,Result.andThen_ok,List.map_toArray,a3q,a4L,z,C,run_max_int2];grind
def zr:∀ {h:Χ}{d:Τ},bytesOf h=β d->h=d.map ao
 |[],d,b=>by simp only[bytesOf,a3c]at b;subst b;rfl
 |r::h,d,b=>by
  simp only[bytesOf]at b;split at b
  case h_2=>cases b
  rename_i x aX c k;obtain rfl:=Δ b;rw[zr k,a3q];congr 1;unfold byteOf at c;split at c
  .rename_i p;split at c
   .rename_i y;obtain rfl:=Δ c;simp only[ao];congr 2;have:p.toNat<256:=δ;simp[a4A this];omega
   .cases c
  .cases c
theorem qU(b:Τ):flat (b.map ao)=b.map ao:=by
 induction b with
 |nil=>rfl
 |cons c b ih=>simp only[flat,a3q,a3A]at ih|-;rw[ih];rfl
theorem GS(d h:TypeId)(k:Operand)(w:o.op=.convert d h k)(r:TypeId)(E:m.underlying d=β (.slice r))(F:m.underlying r=β (.int .u8))(L:m.underlying h=β .string)(A:aJ k=η)(B:bE t a j)(W:Holds t f l)(z:G ⟨m,s⟩ (.pE k) j f Z):bL m s o a l t f Z:=by
 have C:=B.ah k A;simp only[G]at z;split at z
 case h_2=>trivial
 rename_i H e I;rw[I]at C;split at z
 case h_2=>trivial
 rename_i b K;have M:=zr K;subst M;generalize P:a.eval k=x at C;have S:∀x,(convert d h x).run m l=.ok (.string ⟨b.toArray⟩) l->a.eval k=x->bL m s o a l t f Z:=λx N O=>
  .same W (by simp[execOp,w,O,N]) (.v _ rfl) z
 cases T:b with
 |nil=>
  subst T;cases C with
  |cX D c e bS Q=>
   refine S _ ?_ P;rw[run_convert_bytes_string l d h r D 0 c E F L];cases D with
   |none=>simp[Conv.bytesToString];rfl
   |some D=>have:=run_bytesToString (P:=m) l D 0 c [] a7v;rw[this];rfl
  |J y V len c g i H e X hlen Y k9 k0 n q Q=>refine S _ ?_ P;subst hlen;rw[run_convert_bytes_string l d h r _ _ c E F L];have:=run_bytesToString (P:=m) l ⟨y,V,ε⟩ 0 c [] a7v;simp only[a4L,a3a];rw[this];rfl
 |cons k2 l0=>
  obtain⟨y,V,c,g,i,k3,X,Y,k4,k0,n,q,_⟩:=C.va (by rw[T];simp);have k5:g=1:=by have:=k4 (ao k2) (by rw[T];simp);rw[<-this];rfl
  subst k5;refine S x ?_ P;rw[k3];have l1:=run_convert_bytes_arg l d r E F y V (b.map ao).length c (b.map λy=>(y.toNat)) ρ (λp k6=>by
   have u:p<α b:=by simpa using k6
   have k7:=W.ro _ _ _ (n p δ);rw[k7];have v:=q p (ao b[p]) (by rw[qU];simp[u]);have k8:i p=.int .u8 (b[p].toNat):=by unfold ao at v;exact v.dq
   rw[k8];simp[u]) h L
  simp_all [strOfNums,a4t]
theorem vf{p:Type}(b:List p):∀(d c:Nat),c<d*α b->(ζ d b).flatten[c]?=b[c%α b]?
 |0,c,h=>by simp at h
 |d+1,c,h=>by
  rw[a5n,a4C];by_cases k:c<α b
  .rw[a4D k,a4A k]
  .rw[a5D δ,vf b d (c - α b) (by rw[a7i]at h;omega)];grind[Nat.mod_eq_sub_mod]
theorem kv(b:List b0)(c:Nat):(ζ c b).flatten.length=c*α b:=by simp
theorem GU(y:TypeId)(c k:Operand)(W:o.op=.makeSlice y c k)(p:TypeId)(e:m.underlying y=β (.slice p))(b:TypeInfo)(g:m.info? p=β b)(d:Value)(i:b.zero=β d)(r:d.cells.size=b.size)(Y:∀c∈d.cells.toList,c.oneCell'=η)(D:0<b.size)
  (n:aJ c=η) (q:aJ k=η) (E:bE t a j) (F:Holds t f l) (z:G ⟨m,s⟩ (.jx b.size b.bytes (d.cells.toList.map cv) c k) j f Z):bL m s o a l t f Z:=by
 have L:=E.ah c n;have P:=E.ah k q;simp only[G]at z;split at z
 case h_2=>trivial
 rename_i bm h u k0 v w;rw[v]at L;rw[w]at P;have A:=L.dq;have B:=P.dq;obtain⟨rfl,H,I,K,M⟩:=z;have N:=run_make l y p b d e g i bm u h h H (a6L _) (by rw[Int.mul_comm];exact K) I;have O:bn t (madeCells d.cells (h.toNat*b.size)) (ζ h.toNat (d.cells.toList.map cv)).flatten:=by
  have S:(d.cells.toList.map cv).length=b.size:=by simp[r]
  refine bn.dG.2 ⟨by simp[size_madeCells,r],λT c k2 x Q=>?_⟩;have V:T<h.toNat*b.size:=by grind[Ε,kv]
  rw[vf _ _ _ (by rw[S];exact V),S,a3u]at Q;rw[a4v]at x;have k3:T%b.size<d.cells.size:=by rw[r];exact a4O _ D
  simp only[madeCells,r]at x;rw[Array.getElem?_map]at x;simp only[a7a,V,if_true,a3P,a3c]at x;grind[Array.getElem?_eq_getElem,Option.some.injEq,aQ.cv]
 refine .value (by simp[execOp,W,A,B,N]) (Step.new F _ p _ (λk4 C=>?_) O) (.aq _ _ _ _ D (a3w _)) (M _ F.dQ);obtain⟨k5,X,C⟩:=a6t.1 C;obtain rfl:=(List.mem_replicate.1 X).2;obtain⟨c,_,rfl⟩:=a3m.1 C;exact ng c
theorem GV(N k6:TypeId)(y z:Operand)(k7:o.op=.call {callee:=.builtin .copy,args:=#[y,z],argTypes:=#[N,k6]})(r:TypeId)(k8:m.underlying N=β (.slice r))(S:Nat)(O:(m.info? r).map (·.size)=β S)
  (k9:aJ y=η) (l0:aJ z=η) (Q:bE t a j) (i:Holds t f l) (C:G ⟨m,s⟩ (.mb S y z) j f Z):bL m s o a l t f Z:=by
 have x:=Q.ah y k9;have E:=Q.ah z l0;simp only[G]at C;have a07:∀(h p c F d:Nat)(b L:Χ)(n:Own),aQ t (a.eval z) (.J b n)->a.eval y=.slice (β ⟨h,p,ε⟩) c F->d=S->(∀r∈b,α r.cells=S)->f h=β (.cells L)->p+c*S<=α L->
   Z (.v (.int .i64 (min (α b) c))) (f.set h (.cells (putAt L p (flat (b.take c)))))->bL m s o a l t f Z:=by
  intro h p c F d b L n E u l1 P w a08 l2;subst l1;have l3:∀r∈b.take c,α r.cells=d:=λr V=>P r (a3j V);have a09:(flat (b.take c)).length=(min (α b) c)*d:=by rw[cT l3,a2X,Nat.min_comm]
  have a10:min (α b) c*d<=c*d:=a3g _ δ;have l4:∃D:Array Value,(Builtin.firstCells d (min (α b) c) (a.eval z)).run m l=.ok D l/\bn t D (flat (b.take c))/\(∀A∈flat (b.take c),A.one=η)/\(Builtin.lenOf (a.eval z)).run m l=.ok (α b) l:=by
   obtain⟨B,W,l5,a11,l6⟩:=E.src i P m;have a13:=((fw c P).2).symm;have a14:=cT P;generalize a15:a.eval z=l7 at E W;have l8:(Builtin.firstCells d (min (α b) c) l7).run m l=.ok (B.take (min (α b) c*d)).toArray l:=by
    cases E with
    |cX l9 X dh bS n0=>have:=a2Y (by rw[l5];rfl);subst this;cases l9<;>simp[Builtin.firstCells,loadCells,loadCellsFrom]
    |J Y k0 len X e q xs dh a16 n1 a18 a19 a27 hH a29 n0=>
     subst n1;have a30:∀k v,B[k]?=β v->l.cell? ((⟨Y,k0,ε⟩:Addr).add k)=β v:=by
      intro k v g;have a34:k<(flat b).length:=by grind
      have H:=W.cells;by_cases k2:b=[]
      .subst k2;trivial
      have n2:e=d:=by
       match b,k2 with
       |a36::a38,_=>simp_all
      subst n2;have n3:=run_firstCells_some (P:=m) l e (α b) ⟨Y,k0,ε⟩ (α b) X ((ψ (α b*e)).map q) ρ (λk v x=>by
       have g:k<α b*e:=by grind
       rw[a3u,a4Z g]at x;obtain rfl:q k=v:=by simpa using x
       rw[gM];exact i.ro _ _ _ (hH k g))
      rw[n3]at H;simp only[Result.ok.injEq,and_true]at H;have n4:(ψ (α b*e)).map q=B:=by simp_all
      rw[<-n4,a3u,a4Z δ]at g;obtain rfl:q k=v:=by simpa using g
      rw[gM];exact i.ro _ _ _ (hH k δ)
     grind[run_firstCells_some,min,Nat.mul_le_mul_right]
   refine⟨_,l8,bn.dG.2 ⟨?_,λk y a42 a43 a47=>?_⟩,λA H=>l6 A (by grind),W.len⟩;simp_all;grind
  obtain⟨D,n5,I,k3,n9⟩:=l4;obtain⟨k4,T,a00,a48,a01⟩:=Step.store i w p (flat (b.take c)) D I k3 δ;refine .value ?_ a01 (.v _ rfl) l2;have k5:=run_storeCells_at m h p T D.toList 0 k4 l a00 (by have:=I.1;simp;omega) (I.nd k3);simp only[a4K]at k5;have a02:(storeCells ⟨h,p,ε⟩ D.toList).run m l=.ok () (l.setRow h (cS k4 p D.toList)):=by rw[k5];rfl
  cases K:m.info? r with
  |none=>simp[K]at O
  |some ii=>
   have W:ii.size=d:=by simpa[K] using O
   have a03:Nat.min (α b) c=min (α b) c:=rfl;simp[execOp,k7,resolve,invoke,builtin,u,Builtin.copy_,run_underlying k8,n9,sizeOf,typeInfo,K,W,a03,n5,a02,goInt];omega
 split at C
 .rename_i h p c F d b n V M;rw[V]at x;rw[M]at E;obtain⟨rfl,P,C⟩:=C;split at C
  case h_2=>trivial
  rename_i L w;generalize u:a.eval y=a04 at x;cases x with
  |bB h p c F d a05 a06=>grind
 .rename_i h c F d b n V M;rw[V]at x;rw[M]at E;obtain⟨rfl,P,C⟩:=C;split at C
  case h_2=>trivial
  rename_i L w;generalize u:a.eval y=a04 at x;cases x with
  |aq h c F d a05 a06=>grind
 .trivial
theorem GW(C:Bool)(E:TypeId)(k:Operand)(e:TypeId)(S:o.op=.binOp (if C then .neq else .eql) E k (.const (.slice ε 0 0)) e)(T:TypeId)(g:m.underlying E=β (.slice T))(i:aJ k=η)(n:bE t a j)(c:Holds t f l)
  (d:G ⟨m,s⟩ (.mc C k) j f Z):bL m s o a l t f Z:=by
 have r:=n.ah k i;have V:∀v,a.eval (.const v)=v:=λ_=>rfl;have F:∀b x z,a.eval k=.slice b x z->(execOp a.eval o).run m l=.ok (.value (.bool (xor C b.isNone))) l:=λb x z p=>by
  have bm:=run_equalIn_slice_nil l 9999 E T b x z g;cases C
  .simp[execOp,S,p,V,eqGuard,binOp,Op.equal,Op.maxDepth,bm]
  .simp[execOp,S,p,V,eqGuard,binOp,Op.equal,Op.maxDepth,bm]
 simp only[G]at d;split at d
 case h_3=>trivial
 case h_2=>
  rename_i q x y W L;rw[L]at r;generalize p:a.eval k=u at r;cases r with
  |aq q x y W H w=>exact .same c (F _ x y p) (.v _ rfl) (by simpa using d)
 rename_i A D L;rw[L]at r;generalize p:a.eval k=u at r;cases r with
 |cX b y D bS P=>
  have h:=F b 0 y p;cases D with
  |nil=>simp only[Own.lh]at P;subst P;exact .same c h (.v _ rfl) (by simpa using d)
  |buf B z=>trivial
  |any=>cases b with
   |none=>exact .same c h (.v _ rfl) (by simp_all)
   |some b=>exact .same c h (.v _ rfl) (by simpa using d.2)
  |zero=>cases b with
   |none=>exact .same c h (.v _ rfl) (by simp_all)
   |some b=>exact .same c h (.v _ rfl) (by simpa using d.2)
 |J I off len y W K A D hk hlen w M N hH O P=>
  have h:=F _ len y p;cases D with
  |nil=>trivial
  |buf B z=>exact .same c h (.v _ rfl) (by simpa using d)
  |any=>exact .same c h (.v _ rfl) (by simpa using d.2)
  |zero=>trivial
theorem GX(k E:TypeId)(y:Operand)(z:o.op=.convert k E y)(c:TypeId)(F:m.underlying k=β .string)(W:m.underlying E=β (.slice c))(e:m.underlying c=β (.int .u8))(g:aJ y=η)(i:bE t a j)(C:Holds t f l)(L:G ⟨m,s⟩ (.ou y) j f Z):bL m s o a l t f Z:=by
 have p:=i.ah y g;simp only[G]at L;split at L
 case h_2=>trivial
 rename_i b P;rw[P]at p;have n:=p.dq;have q:=run_bytes_of_string l k E c b F W e;have u:(execOp a.eval o).run m l=.ok (.value (.slice (β ⟨l.heap.size,0,ε⟩) b.size (grownCap l b.size 0 c))) (l.drew.alloc (.cells (bytesRow b (grownCap l b.size 0 c)) c ((bytesRow b (grownCap l b.size 0 c)).size,(bytesRow b (grownCap l b.size 0 c)).size+1))):=by simp[execOp,z,n,q]
 have w:=grownCap_ge l b.size 0 c;generalize grownCap l b.size 0 c=S at*;have A:b.size<=(bytesRow b S).size:=by
  have:b.data.size=b.size:=rfl;simp[bytesRow]
  try omega
 have B:∀d (h:d<b.size),(bytesRow b S)[d]?=β (.int .u8 ((b.data[d]'h).toNat)):=λd h=>by
  simp_all [bytesRow,a5E]
 generalize bytesRow b S=r at*;have k:=Step.write (h7:=l.drew.alloc (.cells r c (r.size,r.size+1))) C.drew l.heap.size b.size r c f rfl rfl rfl ρ (heap_alloc_new l.drew _) (λD _ T=>pv l.drew _ D T) (.inl rfl)
   A (λo v p=>by rw[C.lZ]at p;cases p) (λM o N F=>F)
   (λo z=>by rw[C.dQ]at z;cases z)
 refine .value u ((Step.drew C).trans k) ?_ L;by_cases H:b.size=0
 .have:b.data.toList=[]:=by simp_all
  rw[H,this];exact .cX _ _ _ (λI=>by cases I) trivial
 .refine .J _ _ _ _ 1 (λd=>r.getD d undef) _ _ δ ?_ w (λc P=>?_) (λO V=>?_) (λd h=>?_) (λd Q x=>?_) trivial;simp
  .obtain⟨D,_,rfl⟩:=a3m.1 P;rfl
  .rw[qU]at V;obtain⟨D,_,rfl⟩:=a3m.1 V;rfl
  simp_all [a3t,bb.og]
  .rw[qU,a3u]at x;have h:d<b.size:=by rw[a5v]at x;obtain⟨D,T,_⟩:=x;have:=(a2Z.1 T).1;trivial
   have K:d<b.data.size:=h;rw[a4v,a4S K,a3P,a3c]at x;subst x;rw[a3J,B d h];exact .v _ rfl
end
variable{I:Bool}
section
variable{o:Oper}{a:Act}
def bE.map(p:bE t a j){b:Array Operand}(r:∀d∈b.toList,aJ d=η):bn t (b.map a.eval) (b.toList.map (Go.bt.ah j)):=by
 refine bn.dG.2 ⟨ρ,λx d y c h=>?_⟩;rw[a5l,a3u]at c;rw[a3u]at h;cases k:b.toList[x]? with
 |none=>simp[k]at c
 |some op=>
  rw[k]at c h;obtain rfl:a.eval op=d:=by simpa using c
  obtain rfl:Go.bt.ah j op=y:=by simpa using h
  exact p.ah op (r op (a3d k))
theorem bn.append{b:Array Value}(c:bn t j7 g)(d:bn t b A):bn t (j7++b) (g++A):=by rw[bn.dG]at c d|-;grind
theorem GY(b:FuncId)(first c:Array Operand)(r:o.op=.makeFunc (.func b) first c)(x:∀d∈first.toList,aJ d=η)(y:∀d∈c.toList,aJ d=η)(h:bE t a j)(z:Holds t f l)
  (C:G ⟨m,s⟩ (.bA b first.toList c.toList) j f Z):bL m s o a l t f Z:=by
 have k:=h.map x;have p:=h.map y;refine .same z ?_ (.bA b _ _ _ _ k.1 k.2 p.1 p.2) C;simp only[execOp,r,Instr.makeFunc,Sem.run_bind,Sem.run_pure,Result.andThen_ok]
theorem GZ(b:Operand)(args:Array Operand)(y:Array TypeId)(z:o.op=.call {callee:=.value b,args,argTypes:=y})(C:aJ b=η)
  (D:∀b∈args.toList,aJ b=η) (p:bE t a j) (r:Holds t f l) (c:G ⟨m,s⟩ (.ic b args.toList) j f Z):bL m s o a l t f Z:=by
 intro w A;have h:=p.ah b C;simp only[G]at c;split at c
 case h_2=>trivial
 rename_i k E F L;obtain⟨P,c⟩:=c;obtain⟨d,S,T,V⟩:∃d,m.funcs[k]?=β d/\d.body.isSome/\d.name≠ "runtime.NumGoroutine" :=by unfold fa at P;grind
 rw[L]at h;generalize W:a.eval b=B at h;cases h with
 |bA k ws e E F hw g i n=>
  have q:=bn.append (bn.append ⟨hw,g⟩ (p.map D)) ⟨i,n⟩;have u:=c _ l t q r;have v:(execOp a.eval o).run m l=.ok (.enter k (ws++args.map a.eval++e)) l:=by
   cases x:d.body with
   |none=>simp[x]at T
   |some H=>simp[execOp,z,resolve,W,Deferred.ofValue,invoke,callFunc,S,V,x]
  unfold Oper.wp;rw[v];exact u.mono λI K r=>by
   grind
def H0(b:TypeId)(c:Operand)(h:o.op=.makeInterface b c)(d:TypeDesc)(k:m.underlying b=β d)(p:∀r,d≠.interface r)(x:aJ c=η)(y:bE t a j)(z:Holds t f l)(C:G ⟨m,s⟩ (.pF b c) j f Z):bL m s o a l t f Z:=by
 refine .same z ?_ (.iface b _ _ (y.ah c x)) C;cases d<;>first
  |exact absurd rfl (p _)
  |simp[execOp,h,Instr.makeInterface,run_underlying k]
def qV{b:Value}(c:∀d,(Op.equalIn (d+1) b2 e3 b).run m l=.ok I l):(Op.equalIn 10000 b2 e3 b).run m l=.ok I l:=c 9999
theorem zs(h:Holds t f l)(b:hD f e=η):∃c T,l.heap[e]?=β (.cells c T (0,0)):=by
 unfold hD at b;split at b
 .rename_i k d;obtain⟨_,c,T,p,_⟩:=h.cM e _ d;simp_all
 .rename_i T k d;obtain⟨_,c,p,_⟩:=h.cM e _ d;simp_all
 .cases b
def H2(z:Bool)(S:TypeId)(p r:Operand)(K:TypeId)(n:o.op=.binOp (if z then .neq else .eql) S p r K)(V:TypeId)(x:m.underlying S=β (.pointer V))(W:TypeInfo)(M:m.info? V=β W)(q:W.size≠0)(N:aJ p=η)(O:aJ r=η)(u:bE t a j)(C:Holds t f l)
  (d:G ⟨m,s⟩ (.ln z p r) j f Z):bL m s o a l t f Z:=by
 have b:=u.ah p N;have c:=u.ah r O;simp only[G]at d;have D:∀(e g:Option Addr)(y:Bool),a.eval p=.pointer e->a.eval r=.pointer g->(Op.equalIn 10000 S (.pointer e) (.pointer g)).run m l=.ok y l->Z (.v (.bool (xor z y))) f->bL m s o a l t f Z:=by
  intro e g y v w E F;cases z
  .exact .same C (v:=.bool y) (by simp[execOp,n,v,w,eqGuard,binOp,Op.equal,Op.maxDepth,E]) (.v _ rfl) (by simpa using F)
  .exact .same C (v:=.bool (!y)) (by simp[execOp,n,v,w,eqGuard,binOp,Op.equal,Op.maxDepth,E]) (.v _ rfl) (by simpa using F)
 split at d
 .rename_i L Q h k;rw[h]at b;rw[k]at c;exact D _ _ ι b.iQ c.dq (qV (λP=>by simp[Op.equalIn,run_underlying x])) (by simpa using d)
 .rename_i L Q h k;rw[h]at b;rw[k]at c;exact D _ _ ι b.dq c.iQ (qV (λP=>by simp[Op.equalIn,run_underlying x])) (by simpa using d)
 .rename_i h k;rw[h]at b;rw[k]at c;exact D _ _ η b.dq c.dq (qV (λP=>by simp[Op.equalIn,run_underlying x])) (by simpa using d)
 .rename_i L A B H h k;rw[h]at b;rw[k]at c;obtain⟨⟨X,c2⟩,F⟩:=d;obtain⟨k3,T,E⟩:=zs C X;obtain⟨k4,k5,Y⟩:=zs C c2;refine D _ _ _ b.iQ c.iQ ?_ F;have I:(sizeOf V).run m l=.ok W.size l:=by simp[sizeOf,typeInfo,M]
  by_cases i:L=B/\A=H
  .obtain⟨rfl,rfl⟩:=i;exact qV (λP=>by simp[Op.equalIn,run_underlying x,I,q,run_sameAddr_same])
  .have k0:(⟨L,A,ε⟩:Addr)≠⟨B,H,ε⟩:=λk2=>i (by simpa using k2);have:=run_sameAddr_other (P:=m) (w:=l) k0 E Y;exact qV (λP=>by simp[Op.equalIn,run_underlying x,I,q,this,i])
 .exact d.elim
def H3(b:Operand)(r:o.op=.panic b)(x:aJ b=η)(y:bE t a j)(z:Holds t f l)(d:G ⟨m,s⟩ (.me b) j f Z):bL m s o a l t f Z:=by
 intro P C;have c:=y.ah b x;simp only[G]at d;split at d
 case h_2=>trivial
 rename_i h D E;rw[E]at c;have k:=c;generalize F:a.eval b=p at c k;cases c with
 |iface h p D S=>
  have L:(execOp a.eval o).run m l=.halt (.panic (.iface h p)) l:=by simp[execOp,r,F,run_panic_iface]
  unfold Oper.wp;rw[L];exact C _ _ _ _ _ (.refl z) k d
def H4(d:TypeId)(b:Operand)(p:o.op=.range d b)(r:m.underlying d=β .string)(x:aJ b=η)(y:bE t a j)(h:Holds t f l)(c:G ⟨m,s⟩ (.jz b) j f Z):bL m s o a l t f Z:=by
 have k:=y.ah b x;simp only[G]at c;split at c
 case h_2=>trivial
 rename_i z C;rw[C]at k;have D:=k.dq;refine .value ?_ (Step.z7 h _ (.it z 0) (heap_alloc_new l _)) (.ptr _ _) (c _ h.dQ);simp[execOp,p,D,Instr.range,run_underlying r]
theorem H5(x:Operand)(D:o.op=.next x η)(P:aJ x=η)(S:bE t a j)(z:Holds t f l)(h:G ⟨m,s⟩ (.mf x) j f Z):bL m s o a l t f Z:=by
 have E:=S.ah x P;simp only[G]at h;split at h
 case h_2=>trivial
 rename_i k i T;rw[T]at E;obtain⟨rfl,h⟩:=h;have F:=E.iQ;split at h
 case h_2=>trivial
 rename_i d c L;have p:l.heap[k]?=β (.stringIter d c):=z.cM k _ L;have n:=(a4d.1 p).1;by_cases y:c<d.size
 .rw[if_pos y]at h;have V:=Step.z8 z (c:=.stringIter d (c+(Utf8.decode d c).2)) (X:=.it d (c+(Utf8.decode d c).2)) (by simp[L]) p (λq u j W=>by cases W) (by
   show(l.heap.setIfInBounds k _)[k]?= _;simp_all)
  refine .value (v:=.tuple #[.bool η,.int .i64 c,.int .i32 (Utf8.decode d c).1]) ?_ V (.aF _ _ rfl (λr e b=>?_)) h
  .have C:(getObj k).run m l=.ok (.stringIter d c) l:=by simp[getObj,Sem.run,p]
   have g:(setObj k (.stringIter d (c+(Utf8.decode d c).2))).run m l=.ok () {l with heap:=l.heap.setIfInBounds k (.stringIter d (c+(Utf8.decode d c).2))}:=by simp[setObj,Sem.run,p]
   simp[execOp,D,F,Instr.next,C,y,g,goInt]
  .match r,b with
   |0,b=>simp at b;subst b;exact .v _ rfl
   |1,b=>simp at b;subst b;exact .v _ rfl
   |2,b=>simp at b;subst b;exact .v _ rfl
   |r+3,b=>simp at b
 .rw[if_neg y]at h;refine .same z (v:=.tuple #[.bool ι]) ?_ (.aF _ _ rfl (λr e b=>?_)) h
  .have C:(getObj k).run m l=.ok (.stringIter d c) l:=by simp[getObj,Sem.run,p]
   simp[execOp,D,F,Instr.next,C,y]
  .match r,b with
   |0,b=>simp at b;subst b;exact .v _ rfl
   |r+1,b=>simp at b
end
section
def qW(b:Program)(p:Nat)(c:TypeId)(d:List bZ):Prop:=
 ∀(r:Bool)(x:Nat)(a:World)(h:Array Value)(k:Nat),fb d ((h.toList.drop k).take (α d))->
  ∃o,(part c h k).run b a=.ok o a/\(Instr.checkKey r (x+p) c o).run b a=.ok () a
def vg{d:bZ}{h:TypeDesc}(k:m.underlying b2=β h)(o:h.isRow=ι)(p:∀c r a b,d.fit a->(Instr.checkKey c (r+1) b2 a).run m b=.ok () b):qW m (e+1) b2 [d]:=by intro c x b D E y;obtain⟨a,z,C,F⟩:=one_cell y;exact⟨a,nm k o _ _ _ z b,p c (x+e) a b C⟩
theorem H6(a:m.underlying b2=β (.int e0)):qW m (e+1) b2 [.int e0]:=
 vg a rfl λb c d h k=>by
  simp_all [Instr.checkKey,run_underlying]
theorem H7(a:m.underlying b2=β .bool):qW m (e+1) b2 [.bool]:=
 vg a rfl λb c d h k=>by
  simp_all [Instr.checkKey,run_underlying]
theorem H8(a:m.underlying b2=β .string):qW m (e+1) b2 [.str]:=
 vg a rfl λb c d h k=>by
  simp_all [Instr.checkKey,run_underlying]
theorem vh:∀(d:Nat)(h:TypeId)(k:List bZ),flatK m d h=β k->m.cellsOf h=α k->(m.info? h).isSome->qW m d h k
 |0,h,k,a,_,_=>by trivial
 |d+1,h,k,a,L,j=>by
  simp only[flatK]at a;cases hu:m.underlying h with
  |none=>simp[hu]at a
  |some desc=>
   simp only[hu]at a;cases desc<;>simp only[]at a<;>first
    |(cases a;done)
    |skip
   case int N=>obtain rfl:=Δ a;exact H6 hu
   case bool=>obtain rfl:=Δ a;exact H7 hu
   case string=>obtain rfl:=Δ a;exact H8 hu
   case array o t=>
    split at a
    case h_2=>cases a
    rename_i b T;split at a
    case isFalse=>cases a
    rename_i p;obtain rfl:=Δ a;have ih:=vh d t b T p.1 p.2;obtain⟨x,C⟩:=a3C.1 j;obtain⟨u,v⟩:=a3C.1 p.2;have O:u.size=α b:=by simpa[Program.cellsOf,v] using p.1
    have D:x.size=(ζ o b).flatten.length:=by simpa[Program.cellsOf,C] using L
    intro V y E z c F;refine⟨_,lu hu rfl C z c E,?_⟩;rw[show y+(d+1)=(y+d)+1 by omega,Instr.checkKey];simp only[Sem.run_bind,run_underlying hu,Result.andThen_ok];simp only[Std.Legacy.Range.forIn_eq_forIn_range',Std.Legacy.Range.size,Nat.sub_zero,Nat.add_one_sub_one,Nat.div_one];have r:fb (ζ o b).flatten (((z.extract c (c+x.size)).toList.drop (0*α b)).take (ζ o b).flatten.length):=by rw[a6d,a4P,sF,D,a4a,a4V];exact F
    clear F D L a hu;generalize z.extract c (c+x.size)=W at r|-;generalize (0)=P at r|-
    induction o generalizing P with
    |zero=>simp
    |succ o Q=>simp only[a5n,a4C]at r;obtain⟨G,S⟩:=ov r;have e:min (α b) (b++(ζ o b).flatten).length=α b:=ρ;have f:(b++(ζ o b).flatten).length - α b=(ζ o b).flatten.length:=ρ;rw[a4a,e]at G;rw[a4i,a3G,f,show P*α b+α b=(P+1)*α b by grind]at S;obtain⟨w,g,l⟩:=ih V y E W (P*α b) G;simp_all [List.range'_succ,run_sizeOf]
   case struct A=>
    split at a;trivial;obtain⟨x,C⟩:=a3C.1 j;have D:x.size=α k:=by simpa[Program.cellsOf,C] using L
    intro V y E z c F;refine⟨_,lu hu rfl C z c E,?_⟩;rw[show y+(d+1)=(y+d)+1 by omega,Instr.checkKey];simp only[Sem.run_bind,run_underlying hu,Result.andThen_ok];rw[<-Array.forIn_toList];have r:fb k (((z.extract c (c+x.size)).toList.drop 0).take (α k)):=by rw[a4P,sF,D,a4a,a4V];exact F
    have ih:=λh b B H I=>vh d h b B H I;clear F D L hu;generalize z.extract c (c+x.size)=W at r|-;generalize (0)=n at r a;generalize A.toList=q at a|-
    induction q generalizing n k with
    |nil=>simp
    |cons X q K=>
     simp only[pG]at a;split at a
     case isFalse=>cases a
     rename_i s;split at a
     case h_2=>cases a
     rename_i b i T M;split at a
     case isFalse=>cases a
     rename_i p;obtain rfl:=Δ a;obtain⟨G,S⟩:=ov r;have e:min (α b) (b++i).length=α b:=ρ;have f:(b++i).length - α b=α i:=ρ;rw[a4a,e]at G;rw[a4i,a3G,f,<-p.1]at S;obtain⟨w,g,l⟩:=ih _ _ T p.1 p.2 V y E W n G;rw[<-s.1]at g;simp only[List.forIn_cons,Sem.run_bind,s.2,ne_eq,not_false_eq_true,if_true,Result.andThen_ok,g,l,Sem.run_pure];exact K _ _ S M
def H9{a:bZ}(b:a.fit e3)(c:Nat):Instr.sameBits c e3 e3=true:=by
 cases a<;>cases e3<;>first
  |exact b.elim
  |(simp[Instr.sameBits];done)
  |(simp only[Instr.sameBits];exact(Go.MapKept.bytes_beq _ _).2 rfl)
theorem Ha:∀ {b:List bZ},fb b j7.toList->Instr.sameBits (e+1) (.agg j7) (.agg j7)=true:=by
 intro b d;simp only[Instr.sameBits,beq_self_eq_true,a4q];rw[a3h];have:∀(b:List bZ)(a:List Value),fb b a->∀h∈a.zip a,Instr.sameBits e h.1 h.2=true:=by
  intro b
  induction b with
  |nil=>intro a d h c;cases a with
   |nil=>cases c
   |cons _ _=>exact d.elim
  |cons k b ih=>intro a d h c;cases a with
   |nil=>cases c
   |cons o a=>
    rcases a3n.1 c with rfl|c
    .exact H9 d.1 e
    .exact ih a d.2 h c
 grind
def eQ(a:bb):List MapEntry->List (R×R×Nat)->Prop
 |[],[]=>True
 |b::es,c::us=>qN a b c/\eQ a es us
 |_,_=>False
def nf.list{o:bb}:∀ {d:List MapEntry}{h:List (R×R×Nat)},α d=α h->(∀(k:Nat)(a:MapEntry)(b:R×R×Nat),d[k]?=β a->h[k]?=β b->qN o a b)->eQ o d h
 |[],[],_,_=>trivial
 |a::d,b::h,c,p=>⟨p 0 a b rfl rfl,nf.list (by simpa using c) λk a b r x=>p (k+1) a b (by trivial) (by trivial)⟩
 |[],_:: _,c,_=>by simp at c
 |_:: _,[],c,_=>by simp at c
theorem zt{C:bb}{x:Nat}{h:TypeId}{k:List (Nat×bZ)}(i:flatK m x h=β (iP k))(N:x<=10000)(T:m.cellsOf h=(iP k).length)(V:(m.info? h).isSome){j:TypeDesc}(L:m.underlying h=β j)(l:j.isRow=η)
  {W:Value}{o:Χ} (O:aQ C W (.agg o)) (n:db k o) (y:World):∀(D:List MapEntry)(E:List (R×R×Nat))(c:Nat),eQ C D E->(∀F∈E,∃z,F.1=.agg z/\db k z)->
  ∃d,(Instr.findAsking h W D c).run m y=.ok d y/\(match dw E (.agg o) c with
   |none=>d=ε
   |some (e,v)=>∃p,d=β (e,p.val)/\c<=e/\D[e - c]?=β p/\p.key=W/\aQ C p.val v)
 |[],[],c,_,_=>⟨ε,by rfl,rfl⟩
 |[],_:: _,_,a,_=>a.elim
 |_:: _,[],_,a,_=>a.elim
 |p::D,F::E,c,a,q=>by
  obtain⟨⟨f,l4,l5⟩,Q⟩:=a;obtain⟨z,s,X⟩:=q F ρ;rw[s]at f;cases O with
  |agg b _ Y t u=>
   generalize w:p.key=l6 at f;cases f with
   |agg ws _ l7 Z k0=>
    have A:bn C b o:=⟨t,u⟩;have B:bn C ws z:=⟨Z,k0⟩;obtain⟨k2,k3⟩:=ow _ o b.toList n (bn.dG.1 A).1 (bn.dG.1 A).2;obtain⟨k4,k5⟩:=ow _ z ws.toList X (bn.dG.1 B).1 (bn.dG.1 B).2;have k6:b.size=(iP k).length:=by have:=nk k2;trivial
    have k7:ws.size=(iP k).length:=by have:=nk k4;trivial
    obtain⟨g,H⟩:=a3C.1 V;have I:g.size=(iP k).length:=by simpa[Program.cellsOf,H] using T
    obtain⟨l8,l9,d,P,S,K,n0⟩:=sG x h _ i T V (10000 - x) y b ws 0 (by grind) (by grind);rw[lu L l H]at P S;have k8:b.extract 0 (0+g.size)=b:=by rw[a3t,I,<-k6];simp
    have k9:ws.extract 0 (0+g.size)=ws:=by rw[a3t,I,<-k7];simp
    rw[k8]at P;rw[k9]at S;simp only[Result.ok.injEq,and_true]at P S;subst P;subst S;rw[show 10000 - x+x=10000 by omega]at K;have l0:(b=ws)↔d=true:=by grind[Θ,Array.toList_inj]
    have l1:peq (.agg o) (.agg z)=d:=by
     rw[a5t,pz,<-l0,k3,k5];constructor
     .intro a;have n1:=R.agg.inj a;have:∀G r:List Value,G.map R.v=r.map R.v->G=r:=λG r a=>by
       induction G generalizing r with
       |nil=>cases r with
        |nil=>rfl
        |cons _ _=>cases a
       |cons n2 G ih=>cases r with
        |nil=>cases a
        |cons n3 r=>grind
      grind
     .rintro rfl;rfl
    obtain⟨l2,l3,n4⟩:=zt i N T V L l (.agg b o Y t u) n y D E (c+1) Q λF L=>q F (by simp[L]);have M:(Op.equal h (.agg b) (.agg ws)).run m y=.ok d y:=K;simp only[dw,s,l1];cases d with
    |true=>refine⟨β (c,p.val),by simp[Instr.findAsking,w,M],?_⟩;grind
    |false=>refine⟨l2,by simp[Instr.findAsking,w,M,l3],?_⟩;grind
end
structure mo(a:Program)(b:TypeId)(rs:List (Nat×bZ)):Prop where
 flat:∃d,d<=10000/\flatK a d b=β (iP rs)
 size:a.cellsOf b=(iP rs).length
 info:(a.info? b).isSome
 row:∃c,a.underlying b=β c/\c.isRow=η/\(match a.underlying b with|some (.array _ _)|some (.struct _)=>η|_=>ι)=η
variable{j1:List (Nat × bZ)}
section
theorem mo.check(a:mo m b2 j1)(r:aQ t e3 (.agg g))(x:db j1 g)(d:Bool)(c:World):(Instr.checkKey d 10000 b2 e3).run m c=.ok () c:=by
 obtain⟨h,S,y⟩:=a.flat;obtain⟨T,z,C,_⟩:=a.row;cases r with
 |agg b _ V D E=>
  have k:bn t b g:=⟨D,E⟩;obtain⟨F,W⟩:=ow _ g b.toList x (bn.dG.1 k).1 (bn.dG.1 k).2;have G:b.size=(iP j1).length:=by have:=nk F;trivial
  obtain⟨o,p⟩:=a3C.1 a.info;have L:o.size=(iP j1).length:=by simpa[Program.cellsOf,p] using a.size
  obtain⟨e,P,f⟩:=vh h b2 _ y a.size a.info d (10000 - h) c b 0 (by grind);rw[lu z C p]at P;have i:b.extract 0 (0+o.size)=b:=by rw[a3t,L,<-G];simp
  grind
theorem mo.find(a:mo m b2 j1)(r:aQ t e3 (.agg g))(x:db j1 g)(k:World){b:List MapEntry}{c:List (R×R×Nat)}(y:eQ t b c)(z:∀C∈c,∃o,C.1=.agg o/\db j1 o):
  ∃d,(Instr.findKey b2 e3 b).run m k=.ok d k/\(match dw c (.agg g) 0 with
   |none=>d=ε
   |some (p,v)=>∃h,d=β (p,h.val)/\b[p]?=β h/\h.key=e3/\aQ t h.val v):=by
 obtain⟨L,D,E⟩:=a.flat;obtain⟨P,F,G,S⟩:=a.row;obtain⟨d,T,V⟩:=zt E D a.size a.info F G r x k b c 0 y z;grind[run_findKey_eq,dw,id]
def Hb{k o:TypeId}(p:m.underlying k=β (.map o b2))(r:mo m o j1){x:TypeInfo}(L:m.info? b2=β x)(P:x.zero=β e3){y:Value}(z:aQ t y (.agg g))(C:db j1 g)
  {b:Array MapEntry} (D:l.heap[e]?=β (.map b i)) {a:List (R×R×Nat)} (S:eQ t b.toList a) (T:∀V∈a,∃E,V.1=.agg E/\db j1 E) (c:Bool):
  ∃d,(Instr.lookup k (.map (β e)) y c).run m l=.ok d l/\(match dw a (.agg g) 0 with
   |none=>d=if c then .tuple #[e3,.bool ι]else e3
   |some (_,v)=>∃h,aQ t h v/\d=if c then .tuple #[h,.bool η]else h):=by
 obtain⟨s,F,W⟩:=r.find z C l S T;have G:=r.check z C b.isEmpty l;have f:(zeroValue b2).run m l=.ok e3 l:=by simp[zeroValue,typeInfo,L,P]
 revert W;cases dw a (.agg g) 0 with
 |none=>rintro rfl;exact⟨_,by simp[Instr.lookup,run_underlying p,MapKept.run_getObj_map D,G,F,f],rfl⟩
 |some j=>obtain⟨u,v⟩:=j;rintro⟨n,rfl,_,_,q⟩;exact⟨_,by simp[Instr.lookup,run_underlying p,MapKept.run_getObj_map D,G,F],n.val,q,rfl⟩
def eQ.leq:∀ {a:List MapEntry}{b:List (R×R×Nat)},eQ t a b->α a=α b
 |[],[],_=>rfl
 |_:: _,_:: _,c=>by simp[eQ.leq c.2]
theorem eQ.set:∀ {c:List MapEntry}{d:List (R×R×Nat)}{h:Nat}{b:MapEntry}{k o:Value}{v:R},eQ t c d->c[h]?=β b->b.key=k->aQ t o v->
  eQ t (c.modify h λb=> {b with key:=k,val:=o}) (d.modify h λp=>(p.1,v,p.2.2))
 |[],_,_,_,_,_,_,_,a,_,_=>by simp at a
 |_:: _,[],_,_,_,_,_,a,_,_,_=>a.elim
 |x::c,p::d,0,b,k,o,v,a,he,hk,r=>by
  simp at he;subst he;simp only[a6R];exact⟨⟨by rw[<-hk];exact a.1.1,r,a.1.2.2⟩,a.2⟩
 |x::c,p::d,h+1,b,k,o,v,a,he,hk,r=>by
  simp only[a6S];exact⟨a.1,eQ.set a.2 (by trivial) hk r⟩
def eQ.push:∀ {b:List MapEntry}{c:List (R×R×Nat)}{d:MapEntry}{h:R×R×Nat},eQ t b c->qN t d h->eQ t (b++[d]) (c++[h])
 |[],[],_,_,_,a=>⟨a,trivial⟩
 |_:: _,_:: _,_,_,a,k=>⟨a.1,eQ.push a.2 k⟩
theorem Hc{p S:TypeId}(r:m.underlying b2=β (.map p S))(x:mo m p j1){c:Value}{v:R}(d:aQ t e3 (.agg g))(k:db j1 g)(y:aQ t c v)
  {a:Array MapEntry} (h:l.heap[i]?=β (.map a e)) {b:List (R×R×Nat)} (o:eQ t a.toList b) (T:∀V∈b,∃z,V.1=.agg z/\db j1 z):
  ∃C:Array MapEntry,(Instr.mapUpdate b2 (.map (β i)) e3 c).run m l=.ok () {l with heap:=l.heap.setIfInBounds i (.map C (ko b (.agg g) v e).2)}/\eQ t C.toList (ko b (.agg g) v e).1:=by
 obtain⟨I,D,W⟩:=x.find d k l o T;have E:=x.check d k ι l;unfold ko;revert W;cases dw b (.agg g) 0 with
 |none=>
  rintro rfl;refine⟨a.push {key:=e3,val:=c,born:=e},?_,?_⟩
  .simp[Instr.mapUpdate,run_underlying r,MapKept.run_getObj_map h,E,D,MapKept.run_setObj_map _ h]
  .simp only[Array.toList_push];exact o.push ⟨d,y,rfl⟩
 |some f=>
  obtain⟨F,K⟩:=f;rintro⟨G,rfl,j,n,M⟩;have q:Instr.sameBits 10000 e3 e3=true:=by
   cases d with
   |agg L _ N s u=>have P:bn t L g:=⟨s,u⟩;obtain⟨w,O⟩:=ow _ g L.toList k (bn.dG.1 P).1 (bn.dG.1 P).2;have A:(10000)=9999+1:=rfl;rw[A];exact Ha w
  have B:(Instr.keyThatStays e3 e3).run m l=.ok e3 l:=by simp[Instr.keyThatStays,q]
  have H:((a[F]?).map (·.key)).getD e3=e3:=by simp_all
  refine⟨a.modify F λG=> {G with key:=e3,val:=c},?_,?_⟩
  .simp only[Instr.mapUpdate,Sem.run_bind,run_underlying r,Result.andThen_ok,MapKept.run_getObj_map h,E,D,H,B,MapKept.run_setObj_map _ h]
  .rw[Array.toList_modify];exact o.set j n y
end
section
variable{o:Oper}{a:Act}
def aQ.vi(b:aQ t e3 (.ey e)):e3=.map (β e):=by cases b;rfl
def Hd(c:TypeId)(d:o.op=.makeMap c ε)(b:Holds t f l)(h:G ⟨m,s⟩ .jE j f Z):bL m s o a l t f Z:=by refine .value ?_ (Step.z7 b _ (.mp [] 0) ⟨#[],heap_alloc_new l _,rfl,λp r x k=>by simp at k⟩) (.ey _) (h _ b.dQ);simp[execOp,d,Instr.makeMap]
def He(d:TypeId)(b:Operand)(r:o.op=.call {callee:=.builtin .len,args:=#[b],argTypes:=#[d]})(x y:TypeId)(z:m.underlying d=β (.map x y))
  (C:aJ b=η) (D:bE t a j) (h:Holds t f l) (c:G ⟨m,s⟩ (.nj b) j f Z):bL m s o a l t f Z:=by
 have k:=D.ah b C;simp only[G]at c;split at c
 case h_2=>trivial
 rename_i p E;rw[E]at k;have F:=k.vi;split at c
 case h_2=>trivial
 rename_i L P S;obtain⟨T,V,W,e⟩:=h.cM p _ S;refine .same h (v:=.int .i64 (α L)) ?_ (.v _ rfl) c;simp[execOp,r,resolve,invoke,builtin,F,Builtin.len_,run_underlying z,run_getObj_map l p T P V,goInt,W]
def Hf(z C D:TypeId)(p r:Operand)(h:Bool)(e:o.op=.lookup z p r h)(g:m.underlying z=β (.map C D))(i:mo m C j1){E:TypeInfo}(n:m.info? D=β E)(u:E.zero=β e3)(F:aQ t e3 q)
  (w:aJ p=η) (A:aJ r=η) (L:bE t a j) (x:Holds t f l) (c:G ⟨m,s⟩ (.jG h j1 q p r) j f Z):bL m s o a l t f Z:=by
 have P:=L.ah p w;have S:=L.ah r A;simp only[G]at c;split at c
 case h_2=>trivial
 rename_i B H I K;rw[I]at P;rw[K]at S;have M:=P.vi;split at c
 case h_2=>trivial
 rename_i T k8 N;obtain⟨O,Q,c⟩:=c;obtain⟨X,Y,k9,k0⟩:=x.cM B _ N;have k2:eQ t X.toList T:=nf.list (by trivial) λd k3 y k4 k5=>k0 d k3 y (by simpa using k4) k5;obtain⟨v,k6,k⟩:=Hb g i n u S O Y k2 Q h;have V:(execOp a.eval o).run m l=.ok (.value v) l:=by simp[execOp,e,M,k6]
 revert c k;cases dw T (.agg H) 0 with
 |none=>
  intro c k;subst k;refine .same x V ?_ c;cases h with
  |false=>exact F
  |true=>exact .aF _ _ rfl (λd y b=>by
    match d,b with
    |0,b=>simp at b;subst b;exact F
    |1,b=>simp at b;subst b;exact .v _ rfl
    |d+2,b=>simp at b)
 |some k7=>
  obtain⟨d,l0⟩:=k7;intro c k;obtain⟨l1,W,rfl⟩:=k;refine .same x V ?_ c;cases h with
  |false=>exact W
  |true=>exact .aF _ _ rfl (λd y b=>by
    match d,b with
    |0,b=>simp at b;subst b;exact W
    |1,b=>simp at b;subst b;exact .v _ rfl
    |d+2,b=>simp at b)
theorem eQ.ok{k:bb}:∀ {p:List MapEntry}{r:List (R×R×Nat)},eQ k p r->∀(d:Nat)(b:MapEntry)(c:R×R×Nat),p[d]?=β b->r[d]?=β c->qN k b c
 |_:: _,_:: _,h,0,b,c,he,hu=>by simp at he hu;subst he;subst hu;exact h.1
 |_:: _,_:: _,h,d+1,b,c,he,hu=>eQ.ok h.2 d b c (by trivial) (by trivial)
 |[],_,_,_,_,_,he,_=>by simp at he
theorem Hg(r P i:TypeId)(c d v:Operand)(h:o.op=.mapUpdate r c d v\/o.op=.insert r c d v)(n:m.underlying r=β (.map P i))(q:mo m P j1)
  (u:aJ c=η) (w:aJ d=η) (A:aJ v=η) (x:bE t a j) (S:Holds t f l) (b:G ⟨m,s⟩ (.ks j1 c d v) j f Z):bL m s o a l t f Z:=by
 have T:=x.ah c u;have V:=x.ah d w;have B:=x.ah v A;simp only[G]at b;split at b
 case h_2=>trivial
 rename_i H y I K;rw[I]at T;rw[K]at V;have M:=T.vi;split at b
 case h_2=>trivial
 rename_i k z W;obtain⟨N,O,b⟩:=b;obtain⟨Q,C,k4,X⟩:=S.cM H _ W;have Y:eQ t Q.toList k:=nf.list (by trivial) λD p E F L=>X D p E (by simpa using F) L;obtain⟨e,k0,g⟩:=Hc n q V N B C Y O;have k5:=(a4d.1 C).1;have k2:=Step.z8 S (c:=.map e (ko k (.agg y) (Go.bt.ah j v) z).2) (X:=.mp (ko k (.agg y) (Go.bt.ah j v) z).1 (ko k (.agg y) (Go.bt.ah j v) z).2) (by simp[W]) C (λk6 p j k3=>by cases k3)
  ⟨e,by
   simp_all,by simpa using g.leq,λD p E F L=>g.ok D p E (by simpa using F) L⟩
 refine .skip ?_ k2 b;rcases h with h|h<;>simp[execOp,h,M,k0]
end
end Go.bt
