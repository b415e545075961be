import Derived.WalkKit
import Derived.Deep.MidRow
import Derived.ChangeKeysEq
import Derived.LaidEql
import Derived.Laws.Cover3
import Derived.WalkSmall
import Derived.Lib.Builder
import Derived.Lib.UnsafeStr
import Derived.MapKept
import Derived.WideKeyRuns
set_option linter.all false
open Option renaming some->β,none->ζ
open List renaming replicate->ε,range->ω,length_append->Β,take_of_length_le->Ε,getElem?_eq_some_iff->Ζ,drop_eq_getElem_cons->Ν,length->α
open Bool renaming true->η,false->ι
open UInt8 renaming ofNat->ν
open BitVec renaming ofInt->ρ
open Prod renaming fst->Γ
abbrev Ω:=List Int
abbrev ϊ:=List UInt8
abbrev ϋ:=List Nat
abbrev ό:=List UInt32
def δ{p:Prop}(h:p:=by omega):p:=h
def ς{p:Prop}(h:p:=by simp):p:=h
def Μ{p:Prop}(h:p:=by simp;omega):p:=h
def abE{p:Prop}(h:p:=by assumption):p:=h
def Θ{p:Prop}(h:p:=by decide):p:=h
def Χ{p:Prop}(h:p:=by kernel_rfl):p:=h
def abH{p:Prop}(h:p:=by rfl):p:=h
def υ:=@And.intro
def Δ:=@Option.some.inj
def Ρ:=@List.getElem?_eq_getElem
def Φ:=@Ε
def Ψ:=@Β
def Υ:=@Bool.and_eq_true
def a7q:=@List.length_take
def a7r:=@List.mem_of_getElem?
def a7s:=@List.length_cons
def a7t:=@List.eq_nil_of_length_eq_zero
def a7u:=@Ζ
def Ι:=@Ne.symm
def a7w:=@List.length_map
def a7x:=@List.length_nil
def a7y:=@Option.some.injEq
def a7z:=@List.mem_append
def a7A:=@List.mem_of_mem_take
def a7B:=@List.append_assoc
def a7C:=@List.map_cons
def a7D:=@Nat.mul_le_mul_right
def a7E:=@List.all_eq_true
def a7F:=@List.length_drop
def a7G:=@List.mem_map
def a7H:=@List.nil_append
def a7I:=@List.mem_singleton
def a7J:=@List.mem_cons
def a7K:=@List.take_length
def a7L:=@Int.toNat_natCast
def a7M:=@Ν
def a7N:=@Nat.zero_le
def a7O:=@List.getElem_mem
def a7P:=@List.flatMap_cons
def a7Q:=@Nat.zero_add
def a7R:=@List.getElem?_map
def a7S:=@List.foldl_cons
def a7T:=@Nat.le_refl
def a7U:=@List.mem_of_mem_drop
def a7V:=@List.take_append_drop
def a7W:=@List.getD_cons_zero
def a7X:=@List.pairwise_cons
def a7Y:=@Option.isSome_iff_exists
def a7Z:=@List.getD_cons_succ
def a8a:=@List.getElem_of_mem
def a8b:=@List.drop_eq_nil_of_le
def a8c:=@Bool.not_true
def a8d:=@List.drop_drop
def a8e:=@Nat.shiftRight_eq_div_pow
def a8f:=@List.flatMap_append
def a8g:=@Nat.mul_one
def a8h:=@List.takeWhile_append_dropWhile
def a8i:=@Bool.not_false
def a8j:=@UInt8.toNat_inj
def a8k:=@Array.getD_eq_getD_getElem?
def a8l:=@List.map_append
def a8m:=@Nat.le_trans
def a8n:=@List.getD_eq_getElem?_getD
def a8o:=@Bool.false_eq_true
def a8p:=@UInt8.toNat_ofNat'
def a8q:=@List.length_pos_iff
def a8r:=@List.take_add_one
def a8s:=@List.getElem?_take_of_lt
def a8t:=@List.append_nil
def a8u:=@Option.map_some
def a8v:=@List.pairwise_append
def a8w:=@Nat.add_mul
def a8x:=@Prod.mk.injEq
def a8y:=@List.take_succ_eq_append_getElem
def a8z:=@Nat.lt_of_lt_of_le
def a8A:=@List.cons_append
def a8B:=@List.take_take
def a8C:=@List.mem_range
def a8D:=@Array.getElem?_eq_some_iff
def a8E:=@List.sum_cons
def a8F:=@List.set_eq_take_append_cons_drop
def a8G:=@List.drop_succ_cons
def a8H:=@List.drop_take
def a8I:=@List.takeWhile_cons
def a8J:=@List.not_mem_nil
def a8K:=@List.map_nil
def a8L:=@List.mem_cons_of_mem
def a8M:=@List.pairwise_iff_getElem
def a8N:=@List.drop_of_length_le
def a8O:=@List.drop_zero
def a8P:=@List.drop_append
def a8Q:=@List.length_singleton
def a8R:=@Bool.not_eq_true'
def a8S:=@Bool.true_and
def a8T:=@List.take_append_of_le_length
def a8U:=@List.drop_append_of_le_length
def a8V:=@Int.toNat_of_nonneg
def a8W:=@List.map_congr_left
def a8X:=@Array.getElem?_toList
def a8Y:=@Nat.min_eq_left
def a8Z:=@Bool.or_eq_true
def a9a:=@Option.isSome_none
def a9b:=@List.append_of_mem
def a9c:=@List.getElem?_cons_zero
def a9d:=@Nat.mod_eq_of_lt
def a9e:=@Nat.pow_le_pow_right
def a9f:=@List.flatten_cons
def a9g:=@List.foldl_append
def a9h:=@List.length_zipWith
def a9i:=@List.getElem?_append_left
def a9j:=@List.length_replicate
def a9k:=@List.mem_cons_self
def a9l:=@Option.getD_some
def a9m:=@List.take_zero
def a9n:=@List.getElem?_cons_succ
def a9o:=@Int.eq_ofNat_of_zero_le
def a9p:=@Nat.add_zero
def a9q:=@List.length_eq_one_iff
def a9r:=@Nat.testBit_lt_two_pow
def a9s:=@List.map_map
def a9t:=@Nat.mod_lt
def a9u:=@List.exists_cons_of_ne_nil
def a9v:=@List.drop_length
def a9w:=@List.mem_append_right
def a9x:=@Array.getElem?_eq_getElem
def a9y:=@List.mem_or_eq_of_mem_set
def a9z:=@List.eraseIdx_eq_take_drop_succ
def a9A:=@Nat.min_self
def a9B:=@List.mem_append_left
def a9C:=@List.take_left'
def a9D:=@List.replicate_succ
def a9E:=@List.getElem?_range
def a9F:=@Iff.rfl
def a9G:=@Nat.shiftLeft_eq
def a9H:=@Bool.false_and
def a9I:=@List.foldl_nil
def a9J:=@Nat.sub_self
def a9K:=@Option.isSome_some
def a9L:=@List.cons.injEq
def a9M:=@Nat.eq_of_mul_eq_mul_right
def a9N:=@List.pairwise_map
def a9O:=@Nat.eq_of_testBit_eq
def a9P:=@Array.toList_map
def a9Q:=@List.perm_middle
def a9R:=@List.dropWhile_cons
def a9S:=@Nat.add_sub_cancel_left
def a9T:=@Bool.eq_iff_iff
def a9U:=@Nat.xor_lt_two_pow
def a9V:=@List.drop_left'
def a9W:=@Option.map_eq_some_iff
def a9X:=@Nat.shiftLeft_add_eq_or_of_lt
def a9Y:=@List.take_left
def a9Z:=@Bool.false_xor
def aa0:=@List.drop_left
def aa1:=@List.take_length_add_append
def aa2:=@List.drop_length_add_append
def aa3:=@List.getElem?_of_mem
def aa4:=@List.flatMap_nil
def aa5:=@List.take_append
def aa6:=@List.getElem?_append_right
def aa7:=@Array.getElem?_append_left
def aa8:=@List.map_drop
def aa9:=@Nat.one_mul
def aaa:=@List.take_succ_cons
def aab:=@Nat.div_add_mod
def aac:=@Nat.div_le_self
def aad:=@List.length_set
def aae:=@List.mem_filter
def aaf:=@List.getElem?_drop
def aag:=@Int.cast_ofNat_Int
def aah:=@List.sum_nil
def aai:=@List.filter_append
def aaj:=@List.mem_of_mem_eraseIdx
def aak:=@Nat.mul_le_mul
def aal:=@List.length_pos_of_mem
def aam:=@Option.getD_none
def aan:=@List.flatMap_def
def aao:=@List.append_cons
def aap:=@List.filter_cons
def aaq:=@List.any_eq_true
def aar:=@Bool.and_eq_false_iff
def aas:=@List.length_filter_le
def aat:=@Array.getElem?_setIfInBounds_ne
def aau:=@Nat.zero_mul
def aav:=@Nat.succ_mul
def aaw:=@Array.eq_empty_of_size_eq_zero
def aax:=@Nat.testBit_xor
def aay:=@List.getElem?_append
def aaz:=@Array.length_toList
def aaA:=@List.filter_eq_self
def aaB:=@Option.map_map
def aaC:=@List.mem_filterMap
def aaD:=@Array.extract_eq_self_of_le
def aaE:=@Nat.add_assoc
def aaF:=@List.map_take
def aaG:=@Nat.testBit_two_pow_add_gt
def aaH:=@Int.tdiv_eq_ediv_of_nonneg
def aaI:=@List.cons.inj
def aaJ:=@Nat.lt_trichotomy
def aaK:=@List.nodup_append
def aaL:=@List.ext_getElem?
def aaM:=@Option.isNone_iff_eq_none
def aaN:=@List.mem_flatten
def aaO:=@Array.toList_inj
def aaP:=@List.isEmpty_iff
def aaQ:=@Nat.add_comm
def aaR:=@Int.zero_add
def aaS:=@Nat.pow_succ
def aaT:=@List.ext_getElem
def aaU:=@BitVec.toNat_xor
def aaV:=@Int.sub_zero
def aaW:=@List.Pairwise.imp_of_mem
def aaX:=@List.getElem_map
def aaY:=@Nat.le_mul_of_pos_right
def aaZ:=@Nat.testBit_mod_two_pow
def ab0:=@List.filter_cons_of_neg
def ab1:=@List.filter_cons_of_pos
def ab2:=@List.append_inj
def ab3:=@List.range_succ
def ab4:=@List.sum_append
def ab5:=@List.filter_nil
def ab6:=@Int.le_refl
def ab7:=@BitVec.isLt
def ab8:=@List.range_succ_eq_map
def ab9:=@Nat.le_mul_of_pos_left
def aba:=@Prod.mk.inj
def abb:=@List.getElem?_set_self
def abc:=@List.modify_zero_cons
def abd:=@List.modify_succ_cons
def abe:=@Array.getElem?_append
def abf:=@Nat.le_div_iff_mul_le
def abg:=@List.take_succ
def abh:=@List.getElem?_eq_none
def abi:=@Nat.add_sub_add_right
def abj:=@List.singleton_append
def abk:=@Array.ext'
def abl:=@Array.getElem?_range
def abm:=@List.replicate_succ'
def abn:=@Bool.or_eq_false_iff
def abo:=@Bool.and_true
def abp:=@Bool.false_or
def abq:=@List.drop_nil
def abr:=@Array.toList_zipIdx
def abt:=@Nat.mul_le_mul_left
def abu:=@Nat.testBit_two_pow
def abv:=@List.drop_set_of_lt
def abw:=@Nat.le_of_eq
def abx:=@Nat.mul_comm
def aby:=@Nat.succ_pos
def abz:=@List.all_map
def abA:=@Nat.lt_or_ge
namespace Go.bD
open Go
inductive Own where
 |any
 |nil
 |zero
 |buf (g cap:Nat)
inductive R where
 |v (x:Value)
 |ptr (l off:Nat)
 |bS (cs:List R)
 |J (xs:List R) (o:Own)
 |bE (l off len cap k:Nat)
 |aq (l n cap k:Nat)
 |agg (cs:List R)
 |aJ (a:List R)
 |iface (t:TypeId) (x:R)
 |bG (f:Nat) (pre cap:List R)
 |ff (l:Nat)
abbrev ύ:=List R
def R.cells:R->ύ
 |.agg cs=>cs
 |.aJ _=>[]
 |a=>[a]
def R.one:R->Bool
 |.agg _=>ι
 |.aJ _=>ι
 |_=>η
def flat(a:ύ):ύ:=a.flatMap R.cells
abbrev bn:=Nat->Nat->Option Value
def Own.ok(a:Own)(b c d:Nat):Prop:=
 match a with
 |.any=>True
 |.buf h k=>h=b/\c=0/\k=d
 |_=>False
def Own.lY(a:Own)(b:Option Addr)(c:Nat):Prop:=
 match a with
 |.any=>True
 |.nil=>b=ζ
 |.zero=>c=0
 |.buf _ _=>False
inductive aZ(p:bn):Value->R->Prop
 |v (x:Value) (h:x.oneCell'=η):aZ p x (.v x)
 |ptr (l off:Nat):aZ p (.pointer (β ⟨l,off,ζ⟩)) (.ptr l off)
 |bS (b off:Nat) (C:Nat->Value) (cs:ύ) (E:∀c∈cs,c.one=η) (hH:∀d,d<α cs->p b (off+d)=β (C d))
   (D:∀d r,cs[d]?=β r->aZ p (C d) r):aZ p (.pointer (β ⟨b,off,ζ⟩)) (.bS cs)
 |di (a:Option Addr) (cap:Nat) (o:Own) (bZ:a=ζ->cap=0) (L:o.lY a cap):aZ p (.slice a 0 cap) (.J [] o)
 |J (b off len cap k:Nat) (C:Nat->Value) (xs:ύ) (o:Own) (hk:0<k) (hlen:len=α xs) (F:len<=cap) (P:∀e∈xs,α e.cells=k)
   (E:∀c∈flat xs,c.one=η) (hH:∀d,d<len*k->p b (off+d)=β (C d)) (D:∀d r,(flat xs)[d]?=β r->aZ p (C d) r) (L:o.ok b off cap):
   aZ p (.slice (β ⟨b,off,ζ⟩) len cap) (.J xs o)
 |bE (l off len cap k:Nat) (hk:0<k) (F:len<=cap):aZ p (.slice (β ⟨l,off,ζ⟩) len cap) (.bE l off len cap k)
 |aq (l n cap k:Nat) (hk:0<k) (F:n<=cap):aZ p (.slice (β ⟨l,0,ζ⟩) n cap) (.aq l n cap k)
 |agg (z:Array Value) (cs:ύ) (E:∀c∈cs,c.one=η) (G:z.size=α cs) (D:∀d r,cs[d]?=β r->aZ p (z.getD d undef) r):aZ p (.agg z) (.agg cs)
 |aJ (z:Array Value) (cs:ύ) (G:z.size=α cs) (D:∀d r,cs[d]?=β r->aZ p (z.getD d undef) r):aZ p (.tuple z) (.aJ cs)
 |iface (t:TypeId) (x:Value) (y:R) (h:aZ p x y):aZ p (.iface t x) (.iface t y)
 |bG (f:Nat) (ws z:Array Value) (cL cs:ύ) (hw:ws.size=α cL) (S:∀d r,cL[d]?=β r->aZ p (ws.getD d undef) r) (G:z.size=α cs) (D:∀d r,cs[d]?=β r->aZ p (z.getD d undef) r):aZ p (.func (.func f) ws z) (.bG f cL cs)
 |ff (l:Nat):aZ p (.map (β l)) (.ff l)
def bx(h:bn)(a:Array Value)(b:ύ):Prop:=a.size=α b/\∀c d,b[c]?=β d->aZ h (a.getD c undef) d
def bn.le(c d:bn):Prop:=∀a b v,c a b=β v->d a b=β v
def bn.le.refl(a:bn):a.le a:=λ_ _ _ b=>b
variable{u:bn}
theorem bn.le.trans{a b:bn}(h:u.le a)(k:a.le b):u.le b:=λc d v o=>k c d v (h c d v o)
variable{e5:Value}
def aZ.mono{E:bn}(F:u.le E){a:R}(p:aZ u e5 a):aZ E e5 a:=by
 induction p with
 |v e5 p=>exact .v e5 p
 |ptr b off=>exact .ptr b off
 |bS r off x cs c hH _ ih=>exact .bS r off x cs c (λy z=>F _ _ _ (hH y z)) ih
 |di a cap C bZ D=>exact .di a cap C bZ D
 |J r off len cap d x xs C hk hlen h G c hH _ D ih=>exact .J r off len cap d x xs C hk hlen h G c (λy z=>F _ _ _ (hH y z)) ih D
 |bE b off len cap d hk h=>exact .bE b off len cap d hk h
 |aq b L cap d hk h=>exact .aq b L cap d hk h
 |agg k cs c o _ ih=>exact .agg k cs c o ih
 |aJ k cs o _ ih=>exact .aJ k cs o ih
 |iface P e5 S _ ih=>exact .iface P e5 S ih
 |bG T ws k cL cs hw _ o _ V ih=>exact .bG T ws k cL cs hw V o ih
 |ff b=>exact .ff b
def bx.mono{a b:bn}(k:a.le b){c:Array Value}{d:ύ}(h:bx a c d):bx b c d:=⟨h.1,λo p r=>(h.2 o p r).mono k⟩
variable{n b5:R}
def aZ.o3(a:aZ u e5 n)(b:n.one=η):e5.oneCell'=true:=by cases a<;>first|assumption|rfl|(simp[R.one]at b)
theorem aZ.undef(a:bn):aZ a Go.undef (.aJ []):=.aJ #[] [] rfl (λc d b=>by simp at b)
theorem aZ.cells{o:bn}{b:Value}{h:R}(p:aZ o b h)(D:0<α h.cells):bx o b.cells h.cells/\∀k∈h.cells,k.one=true:=by
 have r:=p;cases p with
 |agg x cs E y z=>trivial
 |aJ x cs y z=>trivial
 |v b F=>
  refine⟨⟨?_,?_⟩,by intro k c;simp[R.cells]at c;subst c;rfl⟩
  .cases b<;>simp_all [Value.cells,R.cells,Value.oneCell']
  .intro d C a
   match d,a with
   |0,a=>simp[R.cells]at a;subst a;cases b<;>simp_all [Value.cells,Value.oneCell']
   |d+1,a=>trivial
 |_=>
  refine⟨⟨rfl,?_⟩,by intro k c;simp[R.cells]at c;subst c;rfl⟩;intro d C a
  match d,a with
  |0,a=>simp[R.cells]at a;subst a;exact r
  |d+1,a=>simp[R.cells]at a
inductive bu where
 |cells (cs:ύ)
 |ro (cs:ύ)
 |buf (k n cap:Nat)
 |it (t:ByteArray) (pos:Nat)
 |mp (es:List (R×R×Nat)) (clock:Nat)
 |wz (m:Option Nat) (since:Nat) (seen:ϋ) (a:Nat)
 |pd (T:TypeId) (cs:ύ)
 |fL (cs:ύ)
abbrev U:=Nat->Option bu
def U.set(b:U)(c:Nat)(d:bu):U:=λa=>if a=c then β d else b a
def U.del(b:U)(c:Nat):U:=λa=>if a=c then ζ else b a
def U.emp:U:=λ_=>ζ
def U.sub(c d:U):Prop:=∀a b,c a=β b->d a=β b
def rS(c:bn)(a:MapEntry)(b:R×R×Nat):Prop:=aZ c a.key b.1/\aZ c a.val b.2.1/\a.born=b.2.2
def o4(k:bn)(a:Array MapEntry)(b:List (R×R×Nat)):Prop:=a.size=α b/\∀(c:Nat)(d:MapEntry)(h:R×R×Nat),a[c]?=β d->b[c]?=β h->rS k d h
def o4.mono{o p:bn}(r:o.le p){x:Array MapEntry}{y:List (R×R×Nat)}(a:o4 o x y):o4 p x y:=
 ⟨a.1,λb c d h k=>⟨(a.2 b c d h k).1.mono r,(a.2 b c d h k).2.1.mono r,(a.2 b c d h k).2.2⟩⟩
def lj(d:bn)(h:World)(b:Nat):bu->Prop
 |.cells cs=>(∀k∈cs,k.one=η)/\∃a T,h.heap[b]?=β (.cells a T (0,0))/\bx d a cs/\∀c,d b c=ζ
 |.ro cs=>(∀k∈cs,k.one=η)/\∃a T x,h.heap[b]?=β (.cells a T x)/\bx d a cs/\∀c,c<a.size->d b c=β (a.getD c undef)
 |.buf o p cap=>0<o/\p<=cap/\cap<=maxLen/\∃a T,h.heap[b]?=β (.cells a T (0,0))/\a.size=cap*o/\∀c,p*o<=c->d b c=ζ
 |.it y pos=>h.heap[b]?=β (.stringIter y pos)
 |.mp us clock=>∃r,h.heap[b]?=β (.map r clock)/\o4 d r us
 |.wz z since seen C=>h.heap[b]?=β (.mapIter z since seen.toArray C)
 |.fL cs=>(∀k∈cs,k.one=η)/\∃a T,h.heap[b]?=β (.cells a T (a.size,a.size+1))/\bx d a cs/\∀c,d b c=ζ
 |.pd T cs=>(∀k∈cs,k.one=η)/\∃a,h.heap[b]?=β (.cells a T (0,0))/\bx d a cs/\∀c,d b c=ζ
structure Holds(a:bn)(c:U)(w:World):Prop where
 ro:∀b o v,a b o=β v->w.cell? ⟨b,o,ζ⟩=β v
 cT:∀l o,c l=β o->lj a w l o
structure Step(k:bn)(c:U)(w:World)(h:bn)(d:U)(a:World):Prop where
 holds:Holds h d a
 le:k.le h
 os:a.os=w.os
 tape:a.tape=w.tape
 output:a.output=w.output/\w.drawn<=a.drawn
 size:w.heap.size<=a.heap.size
 block:∀b,b<w.heap.size->c b=ζ->a.heap[b]?=w.heap[b]?
 ek:∀b,d b≠ζ->c b≠ζ\/w.heap.size<=b
 mP:∀b o,h b o≠ζ->k b o≠ζ\/c b≠ζ\/w.heap.size<=b
 jL:∀b cs,b<w.heap.size->c b=β (.ro cs)->a.heap[b]?=w.heap[b]? /\(d b=ζ\/∃p,d b=β (.ro p))
def Step.refl{b:bn}{c:U}{d:World}(a:Holds b c d):Step b c d b c d:=
 ⟨a,.refl b,rfl,rfl,⟨rfl,a7T _⟩,a7T _,λ_ _ _=>rfl,λ_ a=>.inl a,λ_ _ a=>.inl a,λ_ _ _ a=>⟨rfl,.inr ⟨_,a⟩⟩⟩
theorem Step.trans{C D E:bn}{F o r:U}{G L P:World}(b:Step C F G D o L)(c:Step D o L E r P):Step C F G E r P where
 holds:=c.holds
 le:=b.le.trans c.le
 os:=c.os.trans b.os
 tape:=c.tape.trans b.tape
 output:=⟨c.output.1.trans b.output.1,a8m b.output.2 c.output.2⟩
 size:=a8m b.size c.size
 block:=λa h x=>by
  have y:o a=none:=by
   cases d:o a with
   |none=>rfl
   |some p=>
     rcases b.ek a (by simp[d])with z|z
     .trivial
     .omega
  rw[c.block a (a8z h b.size) y,b.block a h x]
 ek:=λa h=>by
  rcases c.ek a h with d|d
  .exact b.ek a d
  .exact .inr (a8m b.size d)
 mP:=λa p h=>by
  rcases c.mP a p h with d|d|d
  .exact b.mP a p d
  .exact .inr (b.ek a d)
  .exact .inr (.inr (a8m b.size d))
 jL:=λa T h x=>by
  obtain⟨y,k⟩:=b.jL a T h x;have S:=a8z h b.size;rcases k with k|⟨V,k⟩
  .refine⟨by rw[c.block a S k,y],.inl ?_⟩;cases d:r a with
   |none=>rfl
   |some p=>
     rcases c.ek a (by simp[d])with z|z
     .trivial
     .omega
  .obtain⟨W,e⟩:=c.jL a V S k;simp_all
variable{f s e0:U}{e i v M b9 j1:Nat}{l h9:World}
def Holds.lt(a:Holds u f l){v:Value}(b:u e i=β v):e<l.heap.size:=
 World.block_lt_of_cell? l _ (a.ro e i v b)
def Holds.mQ(b:Holds u f l)(a:Nat):u l.heap.size a=none:=by
 cases c:u l.heap.size a with
 |none=>rfl
 |some v=>have:=b.lt c;omega
variable{Y:bu}
theorem lj.lt(a:lj u l e Y):e<l.heap.size:=by
 cases Y with
 |cells cs=>obtain⟨_,c,T,b,_⟩:=a;grind
 |ro cs=>obtain⟨_,c,T,d,b,_⟩:=a;grind
 |buf h k cap=>obtain⟨_,_,_,c,T,b,_⟩:=a;grind
 |it o pos=>exact(a8D.1 a).1
 |mp us clock=>obtain⟨p,b,_⟩:=a;grind
 |wz r since seen x=>exact(a8D.1 a).1
 |pd T cs=>obtain⟨_,c,b,_⟩:=a;grind
 |fL cs=>obtain⟨_,c,T,b,_⟩:=a;grind
def Holds.ek(a:Holds u f l):f l.heap.size=none:=by
 cases b:f l.heap.size with
 |none=>rfl
 |some v=>have:=(a.cT _ _ b).lt;omega
theorem lj.kept{x:bn}(o:lj u h9 e Y)(r:u.le x)(p:l.heap[e]?=h9.heap[e]?)(L:∀a,x e a≠ζ->u e a≠ζ):lj x l e Y:=by
 have y:∀a,u e a=ζ->x e a=none:=λa z=>by
  grind
 cases Y with
 |cells cs=>obtain⟨c,d,T,b,h,k⟩:=o;exact⟨c,d,T,by rw[p];exact b,h.mono r,λa=>y a (k a)⟩
 |ro cs=>obtain⟨c,d,T,C,b,h,k⟩:=o;exact⟨c,d,T,C,by rw[p];exact b,h.mono r,λa z=>r _ _ _ (k a z)⟩
 |buf P S cap=>obtain⟨c,D,E,d,T,b,h,k⟩:=o;exact⟨c,D,E,d,T,by rw[p];exact b,h,λa z=>y a (k a z)⟩
 |it V pos=>exact by show l.heap[e]?= _;rw[p];exact o
 |mp us clock=>obtain⟨F,b,G⟩:=o;exact⟨F,by rw[p];exact b,G.mono r⟩
 |wz W since seen f=>exact by show l.heap[e]?= _;rw[p];exact o
 |pd T cs=>obtain⟨c,d,b,h,k⟩:=o;exact⟨c,d,by rw[p];exact b,h.mono r,λa=>y a (k a)⟩
 |fL cs=>obtain⟨c,d,T,b,h,k⟩:=o;exact⟨c,d,T,by rw[p];exact b,h.mono r,λa=>y a (k a)⟩
def Holds.drop(a:Holds u f l)(d:s.sub f):Holds u s l:=⟨a.ro,λb c h=>a.cT b c (d b c h)⟩
theorem Step.drop{o p:bn}{r x c:U}{y z:World}(a:Step o r y p x z)(d:c.sub x):Step o r y p c z where
 holds:=a.holds.drop d
 le:=a.le
 os:=a.os
 tape:=a.tape
 output:=a.output
 size:=a.size
 block:=a.block
 ek:=λb C=>a.ek b (by
  cases h:c b with
  |none=>trivial
  |some k=>simp[d b k h])
 mP:=a.mP
 jL:=λb D C h=>by
  obtain⟨E,G⟩:=a.jL b D C h;refine⟨E,?_⟩;cases F:c b with
  |none=>simp
  |some k=>have L:=d b k F;simp_all
def Holds.drew{a:bn}{b:U}{c:World}(d:Holds a b c):Holds a b c.drew:=⟨d.ro,λh k o=>by
 have:=d.cT h k o;trivial⟩
def Step.drew{b:bn}{c:U}{d:World}(a:Holds b c d):Step b c d b c d.drew:=
 ⟨a.drew,.refl b,rfl,rfl,⟨rfl,Nat.le_succ _⟩,a7T _,λ_ _ _=>rfl,λ_ a=>.inl a,λ_ _ a=>.inl a,λ_ _ _ a=>⟨rfl,.inr ⟨_,a⟩⟩⟩
def up(b:R->U->Prop):R->U->Prop:=λv c=>∃a,a.sub c/\b v a
def hS(x:Program)(y:FuncId)(z:ύ)(k:U)(C D:R->U->Prop):Prop:=
 ∀(o:Array Value)(d:World)(h:bn),bx h o z->Holds h k d->
  Calls x y o d λp r=>(∃v a b c,p=.returned v/\Step h k d b c r/\aZ b v a/\C a c)\/
   (∃v a b c,p=.panicked [{v,recovered:=ι}]/\Step h k d b c r/\aZ b v a/\D a c)
theorem hS.mono{c:Program}{d:FuncId}{h:ύ}{k:U}{o p r x:R->U->Prop}(y:hS c d h k o r)(G:∀a b,o a b->p a b)(L:∀a b,r a b->x a b):hS c d h k p x:=
 λz C D E F=>(y z C D E F).mono λ_ _ P=>by
  grind
def AC(p:Program)(r:FuncId)(x:ύ)(c:U)(y:R->U->Prop):Prop:=
 ∀(d:Array Value)(a:World)(b:bn),bx b d x->Holds b c a->
  Calls p r d a λz C=>∃v h k o,z=.returned v/\Step b c a k o C/\aZ k v h/\y h o
variable{t Z:R -> U -> Prop}{b4:FuncId}{g H c0:ύ}{m:Program}
def AC.p(a:AC m b4 g f t):hS m b4 g f t Z:=
 λb c d h k=>(a b c d h k).mono λ_ _ o=>.inl o
def hS.Ir(b:hS m b4 g f t (up λ_ _=>False)):AC m b4 g f t:=
 λc d h k o=>(b c d h k o).mono λ_ _ a=>by
  rcases a with a|⟨v,p,r,x,y,z,C,_,_,D⟩
  .exact a
  .trivial
def AC.mono{c:Program}{d:FuncId}{h:ύ}{k:U}{o p:R->U->Prop}(r:AC c d h k o)(x:∀a b,o a b->p a b):AC c d h k p:=
 λy z C D E=>(r y z C D E).mono λ_ _ ⟨v,a,F,b,G,L,P,S⟩=>⟨v,a,F,b,G,L,P,x _ _ S⟩
def Shift(k:ύ)(c:U)(o:ύ)(p:U):Prop:=
 ∀(d:Array Value)(a:World)(b:bn),bx b d k->Holds b c a->∃h,bx h d o/\Step b c a h p a
def AC.pre(d:AC m b4 H f t)(h:Shift g s H f):AC m b4 g s t:=
 λa b k o p=>by
  obtain⟨r,x,c⟩:=h a b k o p;exact(d a b r x c.holds).mono λ_ _ ⟨v,y,z,f,C,D,E,F⟩=>⟨v,y,z,f,C,c.trans D,E,F⟩
def U.qt(b c:U):Prop:=∀a,b a=ζ\/c a=ζ
def U.join(b c:U):U:=λa=>(b a).or (c a)
def U.mR(a:f e=β Y):(f.join s) e=β Y:=by simp[U.join,a]
def U.pe(a:f e=ζ):(f.join s) e=s e:=by simp[U.join,a]
def Step.frame{z:bn}(c:Step u f l z e0 h9)(C:f.qt s)(L:Holds u (f.join s) l):
  Step u (f.join s) l z (e0.join s) h9/\e0.qt s:=by
 have D:∀b d,s b=β d->f b=ζ/\lj u l b d:=λb d r=>by
  have a:=(C b).resolve_right (by simp[r]);exact⟨a,L.cT b d (by rw[U.pe a];exact r)⟩
 have E:e0.qt s:=λb=>by
  cases r:s b with
  |none=>simp
  |some d=>
   left;obtain⟨y,o⟩:=D b d r;cases a:e0 b with
   |none=>rfl
   |some F=>
     rcases c.ek b (by simp[a])with p|p
     .trivial
     .have:=o.lt;omega
 refine⟨⟨⟨c.holds.ro,λb d r=>?_⟩,c.le,c.os,c.tape,c.output,c.size,λh x a=>?_,λh x=>?_,λh d x=>?_,λh G x a=>?_⟩,E⟩
 .cases a:e0 b with
  |some F=>rw[U.mR a]at r;obtain rfl:=Δ r;exact c.holds.cT b F a
  |none=>
   rw[U.pe a]at r;obtain⟨y,o⟩:=D b d r;refine o.kept c.le (c.block b o.lt y) λP S=>?_;rcases c.mP b P S with p|p|p
   .exact p
   .trivial
   .have:=o.lt;omega
 .exact c.block h x (by
   cases k:f h with
   |none=>rfl
   |some d=>rw[U.mR k]at a;cases a)
 .cases a:e0 h with
  |some d=>
   rcases c.ek h (by simp[a])with p|p
   .left;cases k:f h with
    |none=>trivial
    |some d=>simp[U.mR k]
   .omega
  |none=>
   rw[U.pe a]at x;left;cases k:f h with
   |some d=>simp[U.mR k]
   |none=>rw[U.pe k];exact x
 .rcases c.mP h d x with p|p|p
  .exact .inl p
  .right;left;cases k:f h with
   |none=>trivial
   |some d=>simp[U.mR k]
  .omega
 .cases k:f h with
  |some d=>
   rw[U.mR k]at a;obtain rfl:=Δ a;obtain⟨y,o⟩:=c.jL h G x k;refine⟨y,?_⟩;rcases o with o|⟨T,o⟩
   .rw[U.pe o];left;exact(C h).resolve_left (by simp[k])
   .exact .inr ⟨T,U.mR o⟩
  |none=>rw[U.pe k]at a;refine⟨c.block h x k,.inr ⟨G,?_⟩⟩;rw[U.pe ((E h).resolve_right (by simp[a]))];exact a
def U.Is(a b:U):a.sub (a.join b):=λ_ _ c=>U.mR c
def hS.frame{z:Program}{C:FuncId}{D:ύ}{d b:U}{E F:R->U->Prop}(G:hS z C D d E (up F))(o:d.qt b):
  hS z C D (d.join b) (λc L=>∃a,E c a/\a.qt b/\L=a.join b) (up F):=
 λP S T V h=>(G P S T V (h.drop (U.Is d b))).mono λ_ _ W=>by
  rcases W with⟨v,c,p,a,r,k,x,y⟩|⟨v,c,p,a,r,k,x,e,f,y⟩
  .exact .inl ⟨v,c,p,a.join b,r,(k.frame o h).1,x,a,y,(k.frame o h).2,rfl⟩
  .exact .inr ⟨v,c,p,a.join b,r,(k.frame o h).1,x,e,λg i j=>U.mR (f g i j),y⟩
theorem qu(a:World)(c:Obj)(b:Nat)(d:b≠a.heap.size):(a.alloc c).heap[b]?=a.heap[b]? :=by show(a.heap.push c)[b]?= _;grind
theorem U.ai(c:U)(a:Nat)(b:bu):(c.set a b) a=β b:=by simp[U.set]
theorem U.an(a:U)(b:bu)(c:e≠i):(a.set i b) e=a e:=by simp[U.set,c]
theorem U.iH(b:U)(a:Nat):(b.del a) a=none:=by simp[U.del]
theorem U.eN(a:U)(b:e≠i):(a.del i) e=a e:=by simp[U.del,b]
def bn.ext(c:bn)(d h:Nat)(k:Array Value):bn:=λb a=>if b=d/\a<h then k[a]? else c b a
theorem bn.pf(d:bn)(a b:Nat)(c:Array Value)(h:e<b):(d.ext a b c) a e=c[e]? :=by simp[bn.ext,h]
theorem bn.pg(a:bn)(b c:Nat)(d:Array Value)(h:¬(e=b/\i<c)):(a.ext b c d) e i=a e i:=by simp[bn.ext,h]
theorem Step.write{T:Nat×Nat}(z:Holds u f l)(c o:Nat)(k:Array Value)(V:TypeId)(r:U)
  (W:h9.os=l.os) (e:h9.tape=l.tape) (x:(h9.output,h9.drawn)=(l.output,l.drawn)) (g:l.heap.size<=h9.heap.size)
  (i:h9.heap[c]?=β (.cells k V T)) (C:∀a,a<l.heap.size->a≠c->h9.heap[a]?=l.heap[a]?)
  (B:c=l.heap.size\/(f c≠ζ/\∀D,f c≠β (.ro D)))
  (H:o<=k.size) (j:∀b v,u c b=β v->k[b]?=β v)
  (m:∀h b,h≠c->r h=β b->f h=β b)
  (n:∀b,r c=β b->lj (u.ext c o k) h9 c b):Step u f l (u.ext c o k) r h9:=by
 have E:u.le (u.ext c o k):=λa b v p=>by
  by_cases d:a=c/\b<o
  .obtain⟨rfl,q⟩:=d;rw[bn.pf _ _ _ _ q];exact j b v p
  .rw[bn.pg _ _ _ _ d];exact p
 have F:∀a,a≠c->∀y,(u.ext c o k) a y=u a y:=λa d y=>bn.pg _ _ _ _ (λs=>d s.1);have x:h9.output=l.output/\l.drawn<=h9.drawn:=⟨congrArg Γ x,abw (congrArg Prod.snd x).symm⟩;refine⟨⟨λa b v p=>?_,λh b G=>?_⟩,E,W,e,x,g,λa d t=>?_,λa d=>?_,λa b d=>?_,λa D d t=>?_⟩
 .by_cases d:a=c
  .subst d;simp only[World.cell?,i,a9a,a8o,if_false];grind[bn.pf,bn.pg]
  .rw[F a d]at p;have:=z.ro a b v p;have w:=z.lt p;rw[<-this];exact World.cell?_of_block (C a w d)
 .by_cases d:h=c
  .subst d;exact n b G
  .have L:=z.cT h b (m h b d G);exact L.kept E (C h L.lt d) (λy P=>by rw[F h d]at P;exact P)
 grind
 .by_cases S:a=c;grind
  .left;cases A:r a with
   |none=>trivial
   |some b=>simp_all
 grind
 .have S:a≠c:=by grind
  refine⟨C a d S,?_⟩;cases A:r a with
  |none=>simp
  |some b=>simp_all
def bn.qv(a:bn)(b:Nat)(c:Array Value):a.ext b 0 c=a:=by funext d h;simp[bn.ext]
def Step.new(d:Holds u f l)(a:Array Value)(b:TypeId)(c:ύ)(r:∀x∈c,x.one=η)(y:bx u a c):
  Step u f l u (f.set l.heap.size (.cells c)) (l.alloc (.cells a b)):=by
 have:=Step.write (h9:=l.alloc (.cells a b)) d l.heap.size 0 a b (f.set l.heap.size (.cells c)) rfl rfl rfl ς (heap_alloc_new l _) (λz _ C=>qu l _ z C) (.inl rfl)
  (a7N _) (λh v k=>by rw[d.mQ]at k;cases k) (λE h D o=>by rw[U.an _ _ D]at o;exact o)
  (λh p=>by
   rw[U.ai]at p;obtain rfl:=Δ p;rw[bn.qv];exact⟨r,a,b,heap_alloc_new l _,y,d.mQ⟩)
 rwa[bn.qv]at this
def putAt(a:ύ)(b:Nat)(c:ύ):ύ:=a.take b++c++a.drop (b+α c)
theorem eO(a:ύ)(b:Nat)(c:ύ)(d:b+α c<=α a):(putAt a b c).length=α a:=by simp[putAt];omega
def df(a:Array Value)(b:Nat)(c:List Value):Array Value:=(a.toList.take b++c++a.toList.drop (b+α c)).toArray
theorem bx.dZ{c:Array Value}:bx u c g↔α c.toList=α g/\∀(a:Nat)(h:Value)(b:R),c.toList[a]?=β h->g[a]?=β b->aZ u h b:=by
 constructor
 .rintro⟨o,k⟩;refine⟨by trivial,λa h b r d=>?_⟩;have:=k a b d;simp_all
 .rintro⟨o,k⟩;refine⟨by trivial,λa b d=>?_⟩;have x:=(a7u.1 d).1;have p:a<c.size:=by simp at o;omega
  refine k a _ b ?_ d;simp[p]
theorem bx.putAt{a:bn}{h:Array Value}{b c:ύ}{k:Array Value}(o:bx a h b)(p:bx a k c)(d:Nat)(r:d+α c<=α b):
  bx a (df h d k.toList) (putAt b d c):=by
 grind[bx.dZ,df,Go.bD.putAt,Β,List.length_take,List.length_drop,List.append_assoc,List.getElem?_append_left]
theorem u1(c:∀a∈g,a.one=η)(d:∀a∈H,a.one=η)(b:Nat):∀a∈putAt g b H,a.one=true:=by grind[putAt,List.mem_of_mem_take,List.mem_of_mem_drop]
theorem bx.o3{k:bn}{c:Array Value}{a:ύ}(o:bx k c a)(p:∀r∈a,r.one=η):∀b∈c.toList,b.oneCell'=true:=by
 intro b x;obtain⟨d,y⟩:=aa3 x;obtain⟨C,z⟩:=bx.dZ.1 o;have h:d<α a:=by grind
 exact(z d b _ y (Ρ h)).o3 (p _ (a7O h))
def Step.store(k:Holds u f l)(o:f e=β (.cells g))(b:Nat)(c:ύ)(d:Array Value)(D:bx u d c)
  (E:∀F∈c,F.one=η) (G:b+α c<=α g):
  ∃a T,l.heap[e]?=β (.cells a T (0,0))/\a.size=α g/\Step u f l u (f.set e (.cells (putAt g b c))) (l.setRow e (df a b d.toList)):=by
 obtain⟨L,a,T,h,p,r⟩:=k.cT e _ o;refine⟨a,T,h,p.1,?_⟩;have:=Step.write (h9:=l.setRow e (df a b d.toList)) k e 0 (df a b d.toList) T (f.set e (.cells (putAt g b c))) rfl rfl rfl ς (setRow_heap l e a _ T _ h)
  (λP _ S=>setRow_other l e P _ S) (.inr (by simp[o])) (a7N _) (λx v y=>by rw[r]at y;cases y) (λW x V z=>by rw[U.an _ _ V]at z;exact z)
  (λx C=>by
   rw[U.ai]at C;obtain rfl:=Δ C;rw[bn.qv];exact⟨u1 L E b,_,T,setRow_heap l e a _ T _ h,p.putAt D b G,r⟩)
 rwa[bn.qv]at this
def It(a:Array Value)(b:Nat)(c:List Value)(d:b+α c<=a.size):(df a b c).size=a.size:=by simp[df];omega
def Step.Iu(o:Holds u f l)(p:f e=β (.fL g))(b:Nat)(c:ύ)(d:Array Value)(r:bx u d c)
  (F:∀G∈c,G.one=η) (x:b+α c<=α g):
  ∃a T,l.heap[e]?=β (.cells a T (a.size,a.size+1))/\a.size=α g/\Step u f l u (f.set e (.fL (putAt g b c))) (l.setRow e (df a b d.toList)):=by
 obtain⟨L,a,T,h,k,y⟩:=o.cT e _ p;refine⟨a,T,h,k.1,?_⟩;have P:α d.toList=α c:=by have:=r.1;trivial
 have S:=It _ _ _ (by rw[P,k.1];exact x);have:=Step.write (h9:=l.setRow e (df a b d.toList)) o e 0 (df a b d.toList) T (f.set e (.fL (putAt g b c))) rfl rfl rfl ς (setRow_heap l e a _ T _ h)
  (λV _ W=>setRow_other l e V _ W) (.inr (by simp[p])) (a7N _) (λz v C=>by rw[y]at C;cases C) (λj z i D=>by rw[U.an _ _ i]at D;exact D)
  (λz E=>by
   rw[U.ai]at E;obtain rfl:=Δ E;rw[bn.qv];exact⟨u1 L F b,_,T,by rw[S];exact setRow_heap l e a _ T _ h,k.putAt r b x,y⟩)
 rwa[bn.qv]at this
theorem Step.wA(k:Holds u f l)(b:f e=β (.cells g)\/(∃T,f e=β (.pd T g))\/f e=β (.fL g)):
  ∃C,Step u f l C (f.set e (.ro g)) l:=by
 obtain⟨o,p,a,T,z,c,r,x⟩:(f e≠ζ/\∀g,f e≠β (.ro g))/\(∀D∈g,D.one=η)/\∃a T z,l.heap[e]?=β (.cells a T z)/\bx u a g/\∀d,u e d=none:=by
  rcases b with b|⟨T,b⟩|b
  .obtain⟨p,a,T,c,r,x⟩:=k.cT e _ b;simp_all
  .obtain⟨p,a,c,r,x⟩:=k.cT e _ b;simp_all
  .obtain⟨p,a,T,c,r,x⟩:=k.cT e _ b;simp_all
 refine⟨u.ext e a.size a,Step.write k e a.size a T _ rfl rfl rfl (a7T _) c (λ_ _ _=>rfl) (.inr o) (a7T _) (λd v y=>by rw[x]at y;cases y)
  (λG d E o=>by rw[U.an _ _ E]at o;exact o) (λd h=>?_)⟩
 rw[U.ai]at h;obtain rfl:=Δ h;have F:u.le (u.ext e a.size a):=λL d v y=>by
  rw[bn.pg _ _ _ _ (λc=>by simp_all)];exact y
 refine⟨p,a,T,z,c,r.mono F,λd h=>?_⟩;rw[bn.pf _ _ _ _ h];simp[h]
def Step.freeze(a:Holds u f l)(b:f e=β (.cells g)):∃c,Step u f l c (f.set e (.ro g)) l:=Step.wA a (.inl b)
theorem bx.sub{c:Array Value}(d:bx u c g)(a b:Nat)(h:a+b<=α g):bx u (c.extract a (a+b)) ((g.drop a).take b):=by grind[bx.dZ,Ζ,List.getElem?_take_of_lt,Array.getElem?_extract]
theorem Step.other(o:Holds u f l)(c:Nat)(ob:bu)
  (D:h9.os=l.os) (E:h9.tape=l.tape) (h:(h9.output,h9.drawn)=(l.output,l.drawn)) (F:l.heap.size<=h9.heap.size)
  (x:∀a,a<l.heap.size->a≠c->h9.heap[a]?=l.heap[a]?) (T:c=l.heap.size\/(f c≠ζ/\∀y,f c≠β (.ro y))) (G:∀d,u c d=ζ)
  (V:lj u h9 c ob):Step u f l u (f.set c ob) h9:=by
 have h:h9.output=l.output/\l.drawn<=h9.drawn:=⟨congrArg Γ h,abw (congrArg Prod.snd h).symm⟩;refine⟨⟨λa d v k=>?_,λp d r=>?_⟩,.refl u,D,E,h,F,λa b L=>?_,λa b=>?_,λa d b=>.inl b,λa y b L=>?_⟩
 .have b:a≠c:=by rintro rfl;rw[G]at k;cases k
  have P:=o.lt k;rw[<-o.ro a d v k];exact World.cell?_of_block (x a P b)
 .by_cases b:p=c
  .subst b;rw[U.ai]at r;simp_all
  .rw[U.an _ _ b]at r;have z:=o.cT p d r;exact z.kept (.refl u) (x p z.lt b) (λW S=>S)
 grind
 .by_cases C:a=c;grind
  .rw[U.an _ _ C]at b;exact .inl b
 .have C:a≠c:=by grind
  grind[U.an]
def Step.B4(b:Holds u f l)(c:Obj)(a:bu)(d:lj u (l.alloc c) l.heap.size a):Step u f l u (f.set l.heap.size a) (l.alloc c):=
 .other b _ a rfl rfl rfl ς (λh _ k=>qu l _ h k) (.inl rfl) b.mQ d
theorem Holds.Iv(c:Holds u f l){b:Obj}(p:l.heap[e]?=β b)(r:∀d h k,b≠.cells d h k)(a:Nat):u e a=none:=by
 cases o:u e a with
 |none=>rfl
 |some v=>exfalso;have:=c.ro e a v o;grind[World.cell?,Option.some.inj]
def Step.B5(a:Holds u f l){b c:Obj}(d:f e≠ζ/\∀h,f e≠β (.ro h))(k:l.heap[e]?=β b)(o:∀p r x,b≠.cells p r x)(y:lj u {l with heap:=l.heap.setIfInBounds e c} e Y):
  Step u f l u (f.set e Y) {l with heap:=l.heap.setIfInBounds e c}:=
 .other a e Y rfl rfl rfl ς (λC _ z=>aat (Ι z)) (.inr d) (a.Iv k o) y
theorem u2(y:Program)(d b:Nat)(r:TypeId)(k:Nat×Nat):∀(o:List Value)(a:Nat)(c:Array Value)(h:World),h.heap[d]?=β (.cells c r k)->(∀p,p<c.size->¬(k.1<=p/\p<k.2))->b+a+α o<=c.size->(∀v∈o,v.oneCell'=η)->
  (storeCells ⟨d,b,ζ⟩ o a).run y h=.ok () (h.setRow d (c.toList.take (b+a)++o++c.toList.drop (b+a+α o)).toArray)
 |[],a,c,h,x,_,_,_=>by
  simp only[storeCells,a8t,a7x,a9p,a7V,Array.toArray_toList];rw[setRow_self h d c r k x];rfl
 |v::rest,a,c,h,x,C,z,h1=>by
  have L:b+a<c.size:=by simp at z;omega
  have P:(⟨d,b,ζ⟩:Addr).add a=⟨d,b+a,ζ⟩:=by unfold Addr.add;simp
  have S:h.cell? ⟨d,b+a,ζ⟩=β c[b+a]:=by simp[World.cell?,x]
  have T:h.frozen? ⟨d,b+a,ζ⟩=false:=by grind[World.frozen?,Bool.and_eq_false_iff,decide_eq_false_iff_not]
  have D:(store ((⟨d,b,ζ⟩:Addr).add a) v).run y h=.ok () (h.setRow d (c.setIfInBounds (b+a) v)):=by grind[run_store,setCell_eq_setRow]
  have ih:=u2 y d b r k rest (a+1) (c.setIfInBounds (b+a) v) (h.setRow d (c.setIfInBounds (b+a) v)) (setRow_heap h d c _ r _ x) (λp E=>C p (by simpa using E)) (by simp at z|-;omega) (λF G=>h1 F (by simp[G]));simp only[storeCells,Sem.run_bind,D,Result.andThen_ok,ih,setRow_setRow];congr 3;have V:=list_seg_step c.toList (b+a) v rest (by simp at z|-;omega);grind
def wB(b:Nat):∀a,a<b->¬(((0,0):Nat×Nat).1<=a/\a<((0,0):Nat×Nat).2):=λa _=>by simp
section
structure Src(a:Program)(w:World)(k m:Nat)(x:Value)(b:List Value):Prop where
 len:(Builtin.lenOf x).run a w=.ok m w
 cells:(Builtin.firstCells k m x).run a w=.ok b.toArray w
 Iw:(Builtin.firstCells k m x).run a w.drew=.ok b.toArray w.drew
 size:α b=m*k
def B6(b:World)(z C S D:TypeId)(c:TypeInfo)(T:m.underlying z=β (.slice D))(p:TypeDesc)(V:m.underlying C=β p)(W:(∃E,p=.slice E)\/p=.string)
  (e:m.info? D=β c) (d a r:Nat) (k:Array Value) (F:TypeId) (o:Nat×Nat) (f:b.heap[d]?=β (.cells k F o)) (g:∀x,x<k.size->¬(o.1<=x/\x<o.2))
  (y:Nat) (G:Value) (h:List Value) (L:Src m b c.size y G h) (i:∀j∈h,j.oneCell'=η) (l:a+y<=r) (t:a*c.size+α h<=k.size):
  (Builtin.append_ #[z,C] S #[.slice (β ⟨d,0,ζ⟩) a r,G]).run m b=.ok (.slice (β ⟨d,0,ζ⟩) (a+y) r) (b.setRow d (df k (a*c.size) h)):=by
 have P:=u2 m d (a*c.size) F o h 0 k b f g (by trivial) i;simp only[a9p]at P;have n:(storeCells ⟨d,a*c.size,ζ⟩ h).run m b=.ok () (b.setRow d (df k (a*c.size) h)):=by rw[P];rfl
 have q:=λs=>run_underlying V s;rcases W with⟨E,rfl⟩|rfl<;>simp[Builtin.append_,run_underlying T,q,sizeOf,typeInfo,e,L.len,l,L.cells,Addr.add_lit,n]
def Ix(b:World)(C D T E:TypeId)(c:TypeInfo)(V:m.underlying C=β (.slice E))(r:TypeDesc)(W:m.underlying D=β r)(e:(∃F,r=.slice F)\/r=.string)
  (f:m.info? E=β c) (d h a x:Nat) (o:Array Value) (G:TypeId) (p:Nat×Nat) (g:b.heap[d]?=β (.cells o G p)) (i:∀y,y<o.size->¬(p.1<=y/\y<p.2))
  (z:Nat) (L:Value) (k:List Value) (P:Src m b c.size z L k) (j:∀l∈k,l.oneCell'=η) (n:a+z<=x) (u:h+a*c.size+α k<=o.size):
  (Builtin.append_ #[C,D] T #[.slice (β ⟨d,h,ζ⟩) a x,L]).run m b=.ok (.slice (β ⟨d,h,ζ⟩) (a+z) x) (b.setRow d (df o (h+a*c.size) k)):=by
 have S:=u2 m d (h+a*c.size) G p k 0 o b g i (by trivial) j;simp only[a9p]at S;have q:(storeCells ⟨d,h+a*c.size,ζ⟩ k).run m b=.ok () (b.setRow d (df o (h+a*c.size) k)):=by rw[S];rfl
 have s:=λt=>run_underlying W t;rcases e with⟨F,rfl⟩|rfl<;>simp[Builtin.append_,run_underlying V,s,sizeOf,typeInfo,f,P.len,n,P.cells,Addr.add_mid,q]
theorem qw(c:World)(r x G k:TypeId)(d:TypeInfo)(y:Value)(L:m.underlying r=β (.slice k))(o:TypeDesc)(P:m.underlying x=β o)(S:(∃z,o=.slice z)\/o=.string)
  (T:m.info? k=β d) (V:d.zero=β y) (C:Option Addr) (a h:Nat) (p:List Value) (q:α p=a*d.size)
  (W:(Builtin.firstCells d.size a (.slice C a h)).run m c.drew=.ok p.toArray c.drew)
  (b:Nat) (D:Value) (E:List Value) (F:Src m c d.size b D E) (e:h<a+b) (s:((a+b:Nat):Int)<=9223372036854775807) (f:(a+b)*d.bytes<=140737488355328):
  (Builtin.append_ #[r,x] G #[.slice C a h,D]).run m c=
   .ok (.slice (β ⟨c.heap.size,0,ζ⟩) (a+b) (grownCap c (a+b) h k))
    (c.drew.alloc (.cells (p.toArray++E.toArray++Builtin.zeroCells y.cells (grownCap c (a+b) h k -(a+b))) k)):=by
 have g:¬(a+b<=h):=δ;have i:¬(9223372036854775807<((a)+(b:Int))):=δ;have j:¬(281474976710656<Builtin.nextslicecap (a+b) h*d.bytes):=by have:=growslice_fits e f;omega
 have l:=λn=>run_underlying P n;rcases S with⟨z,rfl⟩|rfl
 all_goals
  simp[Builtin.append_,run_underlying L,l,sizeOf,typeInfo,zeroValue,T,V,F.len,g,i,j,Question.forced,F.Iw,W,newRow,grownCap];grind
end
abbrev Fr:=Nat->R
def lZ(b:Fr)(c:Nat)(d:R):Fr:=λa=>if a=c then d else b a
def dj(b:Fr)(a:Option Nat)(c:R):Fr:=
 match a with
 |some a=>lZ b a c
 |none=>b
def cv:Value->R
 |.slice ζ 0 0=>.J [] .nil
 |a=>.v a
def ofConst:Value->R
 |.agg cs=>.agg (cs.toList.map cv)
 |.tuple cs=>.aJ (cs.toList.map cv)
 |a=>cv a
def rT:Value->Bool
 |.agg cs=>cs.toList.all (·.oneCell')
 |.tuple cs=>cs.toList.all (·.oneCell')
 |a=>a.oneCell'
def aQ:Operand->Bool
 |.const v=>rT v
 |_=>η
def al(a:Fr):Operand->R
 |.tmp b=>a b
 |.const v=>ofConst v
 |.global c=>.ptr c 0
 |.func d=>.bG d [] []
theorem aZ.cv(b:bn)(a:Value)(c:a.oneCell'=η):aZ b a (cv a):=by
 unfold Go.bD.cv;split
 .exact .di _ _ _ (λ_=>rfl) rfl
 .exact .v a c
def o5(a:Value):(cv a).one=true:=by unfold cv;split<;>rfl
def bx.ph(c:bn)(b:Array Value)(k:∀a∈b.toList,a.oneCell'=η):bx c b (b.toList.map Go.bD.cv):=by
 refine bx.dZ.2 ⟨ς,λp a o d h=>?_⟩;rw[a7R,d]at h;obtain rfl:cv a=o:=by simpa using h
 exact aZ.cv c a (k a (a7r d))
def aZ.ofConst(d:bn)(a:Value)(c:rT a=η):aZ d a (ofConst a):=by
 cases a<;>first
  |exact aZ.cv d _ c
  |skip
 case agg b=>
  have h:∀a∈b.toList,a.oneCell'=true:=by simp only[rT,a7E]at c;exact c
  obtain⟨k,o⟩:=bx.ph d b h;refine .agg b _ (λr p=>?_) k o;obtain⟨a,_,rfl⟩:=a7G.1 p;exact o5 a
 case tuple b=>
  have h:∀a∈b.toList,a.oneCell'=true:=by simp only[rT,a7E]at c;exact c
  obtain⟨k,o⟩:=bx.ph d b h;exact .aJ b _ k o
def bP(b:bn)(c:Act)(d:Fr):Prop:=∀a,aZ b (c.tmps.getD a undef) (d a)
theorem bP.al{c:bn}{d:Act}{h:Fr}(a:bP c d h)(b:Operand)(k:aQ b=η):aZ c (d.eval b) (al h b):=by
 cases b with
 |tmp o=>exact a o
 |const v=>exact aZ.ofConst c v k
 |global p=>exact .ptr p 0
 |func r=>exact .bG r #[] #[] [] [] rfl (λx y a=>by simp at a) rfl (λx y a=>by simp at a)
def bP.mono{b c:bn}{a:Act}{d:Fr}(h:bP b a d)(k:b.le c):bP c a d:=λo=>(h o).mono k
theorem bP.put{d:bn}{a:Act}{h:Fr}(k:bP d a h)(b:Option Nat)(r:∀c,b=β c->c<a.tmps.size){v:Value}{o:R}(x:aZ d v o):bP d (a.put b v) (dj h b o):=by
 cases b with
 |none=>exact k
 |some b=>
  intro c;have y:=r b rfl;by_cases p:c=b;simp_all [dj,lZ,Act.put]
  .simp only[dj,lZ,if_neg p,Act.put];rw[a8k,aat (Ι p),<-a8k];exact k c
def aM(b:Bool)(c:Nat)(a:ύ):R:=if b then .agg (a.take c)else a.headD (.aJ [])
def U.read(a:U)(l:Nat):Option ύ:=
 match a l with
 |some (.cells cs)=>β cs
 |some (.ro cs)=>β cs
 |some (.pd _ cs)=>β cs
 |some (.fL cs)=>β cs
 |_=>ζ
def eB(a b:Nat)(c:ύ):ύ:=if a=1 then c.take b else(ω b).map λd=>.agg ((c.drop (d*a)).take a)
def hT(d:BinOp)(a:IntKind)(c b:Int):Option Value:=
 match d with
 |.add=>β (.int a (a.wrap (c+b)))
 |.sub=>β (.int a (a.wrap (c - b)))
 |.mul=>β (.int a (a.wrap (c*b)))
 |.quo=>if b=0 then ζ else β (.int a (a.wrap (c.tdiv b)))
 |.rem=>if b=0 then ζ else β (.int a (c.tmod b))
 |.and=>β (.int a (a.wrap (ρ a.bits c&&&ρ a.bits b).toNat))
 |.or=>β (.int a (a.wrap (ρ a.bits c|||ρ a.bits b).toNat))
 |.xor=>β (.int a (a.wrap (ρ a.bits c^^^ρ a.bits b).toNat))
 |.andNot=>β (.int a (a.wrap (ρ a.bits c&&& ~~~(ρ a.bits b)).toNat))
 |.eql=>β (.bool (decide (c=b)))
 |.neq=>β (.bool (decide (c≠b)))
 |.lss=>β (.bool (decide (c<b)))
 |.leq=>β (.bool (decide (c<=b)))
 |.gtr=>β (.bool (decide (b<c)))
 |.geq=>β (.bool (decide (b<=c)))
 |_=>ζ
def o6(d:BinOp)(a:IntKind)(c b:Int):Option Value:=
 if b<0 then ζ else
 match d with
 |.shl=>β (.int a (a.wrap (c*2^(min b.toNat a.bits))))
 |.shr=>β (.int a (c.fdiv (2^(min b.toNat a.bits))))
 |_=>ζ
def fy:BinOp->Bool
 |.shl|.shr=>η
 |_=>ι
def qx(c:BinOp)(a b:ByteArray):Option Value:=
 match c with
 |.add=>if a.size+b.size<=9223372036854775807 then β (.string (a++b))else ζ
 |.eql=>β (.bool (a.toList==b.toList))
 |.neq=>β (.bool (!(a.toList==b.toList)))
 |.lss=>β (.bool (Op.bytesLess a.toList b.toList))
 |.leq=>β (.bool (Op.bytesLess a.toList b.toList||a.toList==b.toList))
 |.gtr=>β (.bool (!(Op.bytesLess a.toList b.toList||a.toList==b.toList)))
 |.geq=>β (.bool (!(Op.bytesLess a.toList b.toList)))
 |_=>ζ
def bt(a:BinOp):Value->Value->Option Value
 |.int b c,.int h d=>if fy a then o6 a b c d else if b=h then hT a b c d else ζ
 |.string k,.string o=>qx a k o
 |_,_=>ζ
def o7(b:UnOp):Value->Option Value
 |.bool d=>match b with|.not=>β (.bool !d)|_=>ζ
 |.int a c=>match b with
  |.neg=>β (.int a (a.wrap (0 - c)))
  |.xor=>β (.int a (a.wrap (ρ a.bits (if a.signed then -1 else a.max)^^^ρ a.bits c).toNat))
  |_=>ζ
 |_=>ζ
noncomputable def peq (a b:R):Bool:=@decide (a=b) (Classical.propDecidable _)
def qy(a b:R):peq a b=η↔a=b:=by simp[peq]
def Iy(a:R):peq a a=true:=by simp[peq]
inductive cb where
 |int (k:IntKind)
 |bool
 |str
 deriving DecidableEq
def cb.fit:cb->Value->Prop
 |.int a,.int b _=>a=b
 |.bool,.bool _=>True
 |.str,.string _=>True
 |_,_=>False
def cb.u3:cb->R->Prop
 |.int a,.v (.int b _)=>a=b
 |.bool,.v (.bool _)=>True
 |.str,.v (.string _)=>True
 |_,_=>False
def dp:List (Nat×cb)->ύ->Prop
 |[],cs=>cs=[]
 |(a,b)::c,cs=>a<=α cs/\(∀d∈cs.take a,b.u3 d)/\dp c (cs.drop a)
noncomputable def dM:List (R×R×Nat)->R->Nat->Option (Nat×R)
 |[],_,_=>ζ
 |a::us,b,c=>if peq b a.1 then β (c,a.2.1)else dM us b (c+1)
noncomputable def lk (a:List (R×R×Nat)) (c v:R) (b:Nat):List (R×R×Nat)×Nat:=
 match dM a c 0 with
 |some (h,_)=>(a.modify h λd=>(d.1,v,d.2.2),b)
 |none=>(a++[(c,v,b)],b+1)
def Iz(a:List (R×R×Nat))(b:Int):Option Nat:=a.findIdx? λc=>(c.2.2:Int)==b
def rU(b:List (Nat×cb))(c:List (R×R×Nat)):Prop:=∀d∈c,∃a,d.1=.agg a/\dp b a
inductive cd where
 |fg (x:Operand)
 |pick (c a b:Operand)
 |alloc (T:TypeId) (zero:ύ)
 |box (T:TypeId) (x:Operand)
 |ll (T:TypeId) (x:Operand)
 |load (agg:Bool) (n:Nat) (x:Operand)
 |store (n:Nat) (x y:Operand)
 |qz (x:Operand)
 |ln (off:Nat) (x:Operand)
 |qA (k len:Nat) (x i:Operand)
 |dS (k:Nat) (x i:Operand)
 |pj (agg:Bool) (k len:Nat) (x i:Operand)
 |ma (x i:Operand)
 |mb (zero:ύ) (parts:List (Nat×Nat×Operand))
 |ko (k:Nat) (xs:List Operand)
 |pk (k:Nat) (x:Operand) (aT aS:Option Operand)
 |kp (k n:Nat) (x:Operand) (aT aS:Option Operand) (ro:Bool)
 |kq (k n:Nat) (x:Operand) (aT aS:Option Operand)
 |len (x:Operand)
 |qB (x:Operand)
 |pn (x:Operand)
 |po (agg:Bool) (off n:Nat) (x:Operand)
 |bin (op:BinOp) (x y:Operand)
 |eqv (neg:Bool) (bF:List (Nat×cb)) (x y:Operand)
 |qC (neg:Bool) (x y:Operand)
 |mS (neg:Bool) (x y:Operand)
 |un (op:UnOp) (x:Operand)
 |je (k:IntKind) (x:Operand)
 |app (k bytes:Nat) (x y:Operand)
 |gg (fn:FuncId) (args:List Operand)
 |ext (x:Operand) (i:Nat)
 |mc (d:Bool) (k:IntKind) (x y:Operand)
 |qD (x:Operand)
 |kr (k bytes:Nat) (z:ύ) (x y:Operand)
 |mT (k:Nat) (x y:Operand)
 |mU (neg:Bool) (x:Operand)
 |ks (k:Nat) (xs:List Operand)
 |me (k bytes:Nat) (x y:Operand)
 |pq (x:Operand)
 |bG (fn:FuncId) (first cap:List Operand)
 |jf (x:Operand) (args:List Operand)
 |qE (t:TypeId) (x:Operand)
 |mV (x:Operand)
 |kt (x:Operand)
 |mW (x:Operand)
 |ku
 |kv (ok:Bool) (rs:List (Nat×cb)) (z:R) (x k:Operand)
 |lo (rs:List (Nat×cb)) (x k v:Operand)
 |mX (x:Operand)
 |mf (k:Nat) (x:Operand) (aT aS d:Option Operand)
 |mY (k:Nat) (z:ύ) (x:Operand)
 |mZ (k:Nat) (x y:Operand)
 |nc (k bytes:Nat) (z:ύ) (x y:Operand)
 |nd (x y:Operand)
def fA(a:Program)(b:FuncId):Bool:=
 match a.funcs[b]? with
 |some fn=>fn.body.isSome&&fn.name != "runtime.NumGoroutine"
 |none=>ι
structure Ctx where
 p:Program
 k:R->U->Prop
@[reducible] def Ctx.of(a:Program):Ctx:=⟨a,λ_ _=>False⟩
def kx(a:Fr)(b:ύ):List (Nat×Nat×Operand)->(ύ->Prop)->Prop
 |[],c=>c b
 |(off,cf,d)::h,c=>(al a d).cells.length=cf/\off+cf<=α b/\kx a (putAt b off (al a d).cells) h c
def aj(a:UInt8):R:=.v (.int .u8 a.toNat)
def byteOf:R->Option UInt8
 |.v (.int .u8 a)=>if 0<=a/\a<256 then β (ν a.toNat)else ζ
 |_=>ζ
def bytesOf:ύ->Option ϊ
 |[]=>β []
 |a::b=>match byteOf a,bytesOf b with
  |some c,β aV=>β (c::aV)
  |_,_=>ζ
def IA(a:UInt8):byteOf (aj a)=β a:=by have c:=a.toNat_lt;have b:(0)<=(a.toNat:Int)/\(a.toNat:Int)<256:=δ;simp[byteOf,aj,b]
def rV:∀a:ϊ,bytesOf (a.map aj)=β a
 |[]=>rfl
 |b::a=>by simp[bytesOf,IA,rV a]
def dc(b:Fr)(a:Option Operand)(c:Nat):Option Int:=
 match a with
 |none=>β c
 |some a=>match al b a with
  |.v (.int _ d)=>β d
  |_=>ζ
def wC(a:Own)(b c:Option Operand):Own:=
 match b,c with
 |none,ζ=>a
 |_,_=>.any
def qF(k:Bool)(c a d h b:Nat):R:=if k=η then .bE c (a*b) (d - a) (h - a) b else .aq c d h b
def bW(k:U)(a:Nat)(o:R):Option (Nat×ύ):=
 match o with
 |.J c _=>if c.all (λp=>decide (α p.cells=a))=η then β (α c,flat c)else ζ
 |.aq d b _ h=>match k.read d with
  |some cs=>if h=a/\b*a<=α cs then β (b,cs.take (b*a))else ζ
  |none=>ζ
 |.bE d off b _ h=>match k.read d with
  |some cs=>if h=a/\off+b*a<=α cs then β (b,(cs.drop off).take (b*a))else ζ
  |none=>ζ
 |_=>ζ
def nf(d:U)(b:Nat)(a:R):Option (Nat×ύ):=
 match a with
 |.v (.string c)=>if b=1 then β (c.size,c.data.toList.map aj)else ζ
 |a=>bW d b a
def wD{a:Nat×ύ}(b:bW f e n=β a):nf f e n=β a:=by
 unfold nf;split
 .trivial
 .exact b
def lp(a:U)(b:Nat):Bool:=
 match a b with
 |some (.cells _)=>η
 |some (.pd _ _)=>η
 |_=>ι
def rW:R->Option R
 |.aq _ _ cap _=>β (.v (.int .i64 cap))
 |.J [] .nil=>β (.v (.int .i64 0))
 |_=>ζ
def rX(c:Fr)(h:Nat)(y:R)(k o p:Option Operand):Option R:=
 match y with
 |.aq r len cap x=>match dc c k 0,dc c o len,dc c p cap with
  |some a,β d,β b=>if x=h/\0<=a/\a<=d/\d<=b/\b<=cap then
    β (if k.isSome=η then(if a<b then .bE r (a.toNat*h) (d.toNat - a.toNat) (b.toNat - a.toNat) h else .J [] .zero)else .aq r d.toNat b.toNat h)
   else ζ
  |_,_,_=>ζ
 |.bE r off len cap x=>match dc c k 0,dc c o len,dc c p cap with
  |some a,β d,β b=>if x=h/\0<=a/\a<=d/\d<=b/\b<=cap then
    β (if a<b then .bE r (off+a.toNat*h) (d.toNat - a.toNat) (b.toNat - a.toNat) h else .J [] .zero)
   else ζ
  |_,_,_=>ζ
 |.J [] .nil=>match dc c k 0,dc c o 0,dc c p 0 with
  |some a,β d,β b=>if a=0/\d=0/\b=0 then β (.J [] .nil)else ζ
  |_,_,_=>ζ
 |.J [] .zero=>match dc c k 0,dc c o 0,dc c p 0 with
  |some a,β d,β b=>if a=0/\d=0/\b=0 then β (.J [] .zero)else ζ
  |_,_,_=>ζ
 |_=>ζ
def lq(b:Nat)(h:ύ)(k:R)(a:U):Option U:=
 match k with
 |.bE c off d _ o=>match a c with
  |some (.cells cs)=>if o=b/\off+d*b<=α cs then β (a.set c (.cells (putAt cs off (ε d h).flatten)))else ζ
  |_=>ζ
 |.J [] _=>β a
 |_=>ζ
def mg(a:Nat)(p r:R)(c:U):Option (R×U):=
 match bW c a r with
 |some (k,o)=>match p with
  |.bE d off b _ h=>match c d with
   |some (.cells cs)=>if h=a/\off+b*a<=α cs then β (.v (.int .i64 (min k b:Nat)),c.set d (.cells (putAt cs off (o.take (b*a)))))else ζ
   |_=>ζ
  |.aq d b _ h=>match c d with
   |some (.cells cs)=>if h=a/\b*a<=α cs then β (.v (.int .i64 (min k b:Nat)),c.set d (.cells (putAt cs 0 (o.take (b*a)))))else ζ
   |_=>ζ
  |.J [] _=>β (.v (.int .i64 0),c)
  |_=>ζ
 |none=>ζ
def cN:R->Option Nat
 |.aq a _ _ _=>β a
 |.bE a _ _ _ _=>β a
 |_=>ζ
def ky(a:U)(b:Nat):Bool:=
 match a b with
 |some (.cells (_:: _))=>η
 |_=>ι
def lr(d h:R)(a:U):Option R:=
 match cN d,cN h with
 |some b,β c=>if b≠c/\ky a b=η/\ky a c=η then β (.v (.bool ι))else ζ
 |_,_=>ζ
def G(i:Ctx)(j:cd)(d:Fr)(a:U)(k:R->U->Prop):Prop:=
  match j with
  |.fg h=>k (al d h) a
  |.pick m y z=>match al d m with
    |.v (.bool P)=>k (if P then al d y else al d z) a
    |_=>False
  |.alloc _ zero=>∀o,a o=ζ->k (.ptr o 0) (a.set o (.cells zero))
  |.box _ h=>0<(al d h).cells.length/\∀o,a o=ζ->k (.ptr o 0) (a.set o (.cells (al d h).cells))
  |.ll _ h=>0<(al d h).cells.length/\∀o,a o=ζ->k (.ptr o 0) (a.set o (.ro (al d h).cells))
  |.load agg b h=>match al d h with
    |.ptr o off=>match a.read o with
      |some p=>off+b<=α p/\k (aM agg b (p.drop off)) a
      |none=>False
    |.bS p=>b<=α p/\k (aM agg b p) a
    |_=>False
  |.store b h C=>match al d h with
    |.ptr o off=>match a o with
      |some (.cells p)=>(al d C).cells.length=b/\off+b<=α p/\k (.aJ []) (a.set o (.cells (putAt p off (al d C).cells)))
      |_=>False
    |_=>False
  |.qz h=>match al d h with
    |.ptr o off=>k (.ptr o off) a
    |.bS p=>k (.bS p) a
    |.bG b cL p=>k (.bG b cL p) a
    |_=>False
  |.ln off h=>match al d h with
    |.ptr o S=>k (.ptr o (S+off)) a
    |.bS p=>k (.bS (p.drop off)) a
    |_=>False
  |.qA c len h e=>match al d h,al d e with
    |.ptr o S,.v (.int _ b)=>0<=b/\b<len/\k (.ptr o (S+b.toNat*c)) a
    |.bS p,.v (.int _ b)=>0<=b/\b<len/\k (.bS (p.drop (b.toNat*c))) a
    |_,_=>False
  |.dS c h e=>match al d h,al d e with
    |.J xs _,.v (.int _ b)=>0<=b/\match xs[b.toNat]? with
      |some V=>α V.cells=c/\k (.bS V.cells) a
      |none=>False
    |.bE o off len _ L,.v (.int _ b)=>L=c/\0<=b/\b<len/\k (.ptr o (off+b.toNat*c)) a
    |.aq o len _ L,.v (.int _ b)=>L=c/\0<=b/\b<len/\k (.ptr o (b.toNat*c)) a
    |_,_=>False
  |.pj agg c len h e=>match al d h,al d e with
    |.agg p,.v (.int _ b)=>0<=b/\b<len/\b.toNat*c+c<=α p/\k (aM agg c (p.drop (b.toNat*c))) a
    |_,_=>False
  |.ma h e=>match al d h,al d e with
    |.v (.string P),.v (.int _ b)=>0<=b/\match P.data[b.toNat]? with
      |some z=>k (.v (.int .u8 z.toNat)) a
      |none=>False
    |_,_=>False
  |.mb zero parts=>kx d zero parts λp=>k (.agg p) a
  |.ko c xs=>(∀V∈xs.map (al d),α V.cells=c)/\
      (if α xs=0 then k (.J [] .zero) a else∀x,a x=ζ->k (.J (xs.map (al d)) (.buf x (α xs))) (a.set x (.buf c (α xs) (α xs))))
  |.pk c h aT aS=>match al d h with
    |.J xs S=>match dc d aT 0,dc d aS (α xs) with
      |some y,β z=>0<=y/\y<=z/\z<=α xs/\(∀V∈xs,α V.cells=c)/\k (.J ((xs.take z.toNat).drop y.toNat) (wC S aT aS)) a
      |_,_=>False
    |.bE o off len D L=>match dc d aT 0,dc d aS len with
      |some y,β z=>L=c/\0<=y/\y<=z/\z<=len/\y<len/\k (.bE o (off+y.toNat*c) (z.toNat - y.toNat) (D - y.toNat) c) a
      |_,_=>False
    |.aq o len D L=>match dc d aT 0,dc d aS len with
      |some y,β z=>L=c/\0<=y/\y<=z/\z<=len/\(aT.isSome=η->y<len)/\k (qF aT.isSome o y.toNat z.toNat D c) a
      |_,_=>False
    |_=>False
  |.kp c b h aT aS ro=>match al d h with
    |.ptr o off=>match dc d aT 0,dc d aS b with
      |some y,β z=>0<=y/\y<=z/\z<=b/\match a.read o with
        |some p=>off+b*c<=α p/\
          (if ro then k (.J (eB c (z.toNat - y.toNat) (p.drop (off+y.toNat*c))) .any) (a.set o (.ro p))else y<b/\k (.bE o (off+y.toNat*c) (z.toNat - y.toNat) (b - y.toNat) c) a)
        |none=>False
      |_,_=>False
    |_=>False
  |.kq c b h aT aS=>match al d h with
    |.ptr o off=>match dc d aT 0,dc d aS b with
      |some y,β z=>0<=y/\y<=z/\z<=b/\match a o with
        |some (.ro p)=>off+b*c<=α p/\k (.J (eB c (z.toNat - y.toNat) (p.drop (off+y.toNat*c))) .any) a
        |_=>False
      |_,_=>False
    |_=>False
  |.len h=>match al d h with
    |.J xs _=>k (.v (.int .i64 (α xs))) a
    |.bE _ _ b _ _=>k (.v (.int .i64 b)) a
    |.aq _ b _ _=>k (.v (.int .i64 b)) a
    |_=>False
  |.qB h=>match al d h with
    |.v (.string P)=>k (.v (.int .i64 P.size)) a
    |_=>False
  |.pn h=>match al d h with
    |.ff o=>match a o with
      |some (.mp us _)=>k (.v (.int .i64 (α us))) a
      |_=>False
    |_=>False
  |.po agg off b h=>match al d h with
    |.agg p=>off+b<=α p/\k (aM agg b (p.drop off)) a
    |_=>False
  |.bin j h C=>match al d h,al d C with
    |.v y,.v z=>match bt j y z with
      |some W=>k (.v W) a
      |none=>False
    |_,_=>False
  |.eqv neg bF h C=>match al d h,al d C with
    |.agg p,.agg cL=>dp bF p/\dp bF cL/\k (.v (.bool (xor neg (peq (.agg p) (.agg cL))))) a
    |_,_=>False
  |.qC neg h C=>match al d h,al d C with
    |.ptr _ _,.v (.pointer ζ)=>k (.v (.bool neg)) a
    |.bS _,.v (.pointer ζ)=>k (.v (.bool neg)) a
    |.v (.pointer ζ),.v (.pointer ζ)=>k (.v (.bool (!neg))) a
    |_,_=>False
  |.mS neg h C=>match al d h,al d C with
    |.ptr _ _,.v (.pointer ζ)=>k (.v (.bool neg)) a
    |.v (.pointer ζ),.ptr _ _=>k (.v (.bool neg)) a
    |.v (.pointer ζ),.v (.pointer ζ)=>k (.v (.bool (!neg))) a
    |.ptr o S,.ptr s t=>(lp a o=η/\lp a s=η)/\k (.v (.bool (xor neg (decide (o=s/\S=t))))) a
    |_,_=>False
  |.un j h=>match al d h with
    |.v y=>match o7 j y with
      |some W=>k (.v W) a
      |none=>False
    |_=>False
  |.je c h=>match al d h with
    |.v (.int _ b)=>k (.v (.int c (c.wrap b))) a
    |_=>False
  |.app c bytes h C=>match al d h,al d C with
    |.J xs S,.J E _=>(∀V∈xs,α V.cells=c)/\(∀V∈E,α V.cells=c)/\(α xs+α E)*bytes<=140737488355328/\α xs+α E<=9223372036854775807/\
      match S with
      |.buf x m=>a x=β (.buf c (α xs) m)/\∀g l,(g=x\/a g=ζ)->k (.J (xs++E) (.buf g l)) ((a.del x).set g (.buf c (α xs+α E) l))
      |.any=>False
      |_=>xs=[]/\(if E=[]then k (.J [] S) a else∀g l,a g=ζ->k (.J E (.buf g l)) (a.set g (.buf c (α E) l)))
    |_,_=>False
  |.gg fn args=>hS i.p fn (args.map (al d)) a k (up i.k)
  |.ext h e=>match al d h with
    |.aJ u=>match u[e]? with
      |some W=>k W a
      |none=>False
    |_=>False
  |.mc n _ h C=>match al d h,al d C with
    |.v (.int c y),.v (.int L z)=>c=L/\k (.v (.int c (if n then max y z else min y z))) a
    |_,_=>False
  |.qD h=>match al d h with
    |.J xs _=>match bytesOf xs with
      |some o=>k (.v (.string ⟨o.toArray⟩)) a
      |none=>False
    |_=>False
  |.kr c bytes f h C=>match al d h,al d C with
    |.v (.int _ b),.v (.int _ r)=>b=r/\0<=b/\b<=9223372036854775807/\b*bytes<=281474976710656/\∀x,a x=ζ->k (.aq x b.toNat b.toNat c) (a.set x (.cells (ε b.toNat f).flatten))
    |_,_=>False
  |.mT c h C=>match al d h,al d C with
    |.bE o off b _ L,.J E _=>L=c/\(∀V∈E,α V.cells=c)/\match a o with
      |some (.cells p)=>off+b*c<=α p/\k (.v (.int .i64 (min (α E) b))) (a.set o (.cells (putAt p off (flat (E.take b)))))
      |_=>False
    |.aq o b _ L,.J E _=>L=c/\(∀V∈E,α V.cells=c)/\match a o with
      |some (.cells p)=>b*c<=α p/\k (.v (.int .i64 (min (α E) b))) (a.set o (.cells (putAt p 0 (flat (E.take b)))))
      |_=>False
    |_,_=>False
  |.ks c xs=>(∀V∈xs.map (al d),α V.cells=c)/\
      (if α xs=0 then k (.J [] .zero) a else∀x,a x=ζ->k (.aq x (α xs) (α xs) c) (a.set x (.cells (flat (xs.map (al d))))))
  |.me c bytes h C=>match nf a c (al d C)with
    |some (r,E)=>match al d h with
      |.J xs S=>xs=[]/\(S=.nil\/S=.zero)/\r*bytes<=140737488355328/\r<=9223372036854775807/\
        (if r=0 then k (.J [] S) a else∀x D T,a x=ζ->r<=D->D<=maxLen->α T=(D - r)*c->k (.aq x r D c) (a.set x (.cells (E++T))))
      |.aq o b D L=>match a o with
        |some (.cells p)=>L=c/\α p=D*c/\(b+r)*bytes<=140737488355328/\b+r<=9223372036854775807/\
          (if b+r<=D then k (.aq o (b+r) D c) (a.set o (.cells (putAt p (b*c) E)))
           else∀x F T,a x=ζ->b+r<=F->F<=maxLen->α T=(F -(b+r))*c->k (.aq x (b+r) F c) (a.set x (.cells (p.take (b*c)++E++T))))
        |some (.fL p)=>L=c/\α p=D*c/\(b+r)*bytes<=140737488355328/\b+r<=9223372036854775807/\
          (if b+r<=D then k (.aq o (b+r) D c) (a.set o (.fL (putAt p (b*c) E)))
           else∀x F T,a x=ζ->b+r<=F->F<=maxLen->α T=(F -(b+r))*c->k (.aq x (b+r) F c) (a.set x (.cells (p.take (b*c)++E++T))))
        |_=>False
      |.bE o off b D L=>match a o with
        |some (.cells p)=>L=c/\off+D*c<=α p/\(b+r)*bytes<=140737488355328/\b+r<=9223372036854775807/\
          (if b+r<=D then k (.bE o off (b+r) D c) (a.set o (.cells (putAt p (off+b*c) E)))
           else∀x F T,a x=ζ->b+r<=F->F<=maxLen->α T=(F -(b+r))*c->k (.aq x (b+r) F c) (a.set x (.cells ((p.drop off).take (b*c)++E++T))))
        |_=>False
      |_=>False
    |none=>False
  |.pq h=>match al d h with
    |.v (.string P)=>k (.J (P.data.toList.map aj) .any) a
    |_=>False
  |.bG fn first D=>k (.bG fn (first.map (al d)) (D.map (al d))) a
  |.jf h args=>match al d h with
    |.bG fn cL p=>fA i.p fn=η/\hS i.p fn (cL++args.map (al d)++p) a k (up i.k)
    |_=>False
  |.qE P h=>k (.iface P (al d h)) a
  |.mV h=>match al d h with
    |.iface P C=>up i.k (.iface P C) a
    |_=>False
  |.kt h=>match al d h with
    |.v (.string P)=>∀o,a o=ζ->k (.ptr o 0) (a.set o (.it P 0))
    |_=>False
  |.mW h=>match al d h with
    |.ptr o off=>off=0/\match a o with
      |some (.it P pos)=>if pos<P.size then k (.aJ [.v (.bool η),.v (.int .i64 pos),.v (.int .i32 (Utf8.decode P pos).1)]) (a.set o (.it P (pos+(Utf8.decode P pos).2)))else k (.aJ [.v (.bool ι)]) a
      |_=>False
    |_=>False
  |.ku=>∀o,a o=ζ->k (.ff o) (a.set o (.mp [] 0))
  |.kv ok rs f h c=>match al d h,al d c with
    |.ff o,.agg p=>match a o with
      |some (.mp us _)=>dp rs p/\rU rs us/\(match dM us (.agg p) 0 with
        |some (_,v)=>k (if ok then .aJ [v,.v (.bool η)]else v) a
        |none=>k (if ok then .aJ [f,.v (.bool ι)]else f) a)
      |_=>False
    |_,_=>False
  |.lo rs h c v=>match al d h,al d c with
    |.ff o,.agg p=>match a o with
      |some (.mp us clock)=>dp rs p/\rU rs us/\k (.aJ []) (a.set o (.mp (lk us (.agg p) (al d v) clock).1 (lk us (.agg p) (al d v) clock).2))
      |_=>False
    |_,_=>False
  |.mU neg h=>match al d h with
    |.J xs S=>match S with
      |.nil=>k (.v (.bool (!neg))) a
      |.buf _ _=>k (.v (.bool neg)) a
      |_=>(xs=[]->k (.v (.bool (!neg))) a)/\k (.v (.bool neg)) a
    |.aq _ _ _ _=>k (.v (.bool neg)) a
    |_=>False
  |.mX h=>match rW (al d h)with
    |some W=>k W a
    |none=>False
  |.mf c h aT aS n=>match rX d c (al d h) aT aS n with
    |some W=>k W a
    |none=>False
  |.mY c f h=>match lq c f (al d h) a with
    |some q=>k (.aJ []) q
    |none=>False
  |.mZ c h C=>match mg c (al d h) (al d C) a with
    |some (W,q)=>k W q
    |none=>False
  |.nd h C=>match lr (al d h) (al d C) a with
    |some W=>k W a
    |none=>False
  |.nc c bytes f h C=>match al d h,al d C with
    |.aq o b D L,.v (.int .i64 r)=>match a.read o with
      |some p=>L=c/\α p=D*c/\0<=r/\D<b+r.toNat/\(b+r.toNat)*bytes<=140737488355328/\b+r.toNat<=9223372036854775807/\
        ∀x F T,a x=ζ->b+r.toNat<=F->F<=maxLen->α T=(F -(b+r.toNat))*c->k (.aq x (b+r.toNat) F c) (a.set x (.cells (p.take (b*c)++(ε r.toNat f).flatten++T)))
      |none=>False
    |.J xs S,.v (.int .i64 r)=>xs=[]/\S=.nil/\0<r/\r.toNat*bytes<=140737488355328/\r<=9223372036854775807/\
        ∀x F T,a x=ζ->r.toNat<=F->F<=maxLen->α T=(F - r.toNat)*c->k (.aq x r.toNat F c) (a.set x (.cells ((ε r.toNat f).flatten++T)))
    |_,_=>False
def wE{c:Fr}{d h:ύ->Prop}(k:∀o,d o->h o):∀(p:List (Nat×Nat×Operand))(b:ύ),kx c b p d->kx c b p h
 |[],b,a=>k _ a
 |(_,_,_)::r,_,a=>⟨a.1,a.2.1,wE k r _ a.2.2⟩
variable{e2:cd}{K:Ctx}{j:Fr}
theorem B7(c:∀k o,t k o->Z k o)(a:G K e2 j f t):G K e2 j f Z:=by
 cases e2<;>simp only[G]at a|-
 case gg E p=>exact a.mono c (λ_ _ a=>a)
 case mX b=>grind
 case mf=>grind
 case mY=>grind
 case mZ=>grind
 case nd=>grind
 case nc d bytes r b h=>
  grind
 case jf b p=>split at a;(exact⟨a.1,a.2.mono c (λ_ _ a=>a)⟩);trivial
 case mV=>exact a
 case kt=>grind
 case ku=>simp_all
 case kv F x r b d=>
  split at a
  case h_2=>omega
  grind
 case lo x b d v=>
  grind
 case mW b=>
  split at a
  case h_2=>omega
  grind
 case pick=>grind
 case mb L P=>exact wE (λ_ a=>c _ _ a) _ _ a
 case alloc=>simp_all
 case box=>simp_all
 case ll=>simp_all
 case kr=>grind
 case mc=>grind
 case kq d y b z C=>
  (repeat' split at a)<;>first
   |exact a.elim
   |simp_all
   |exact a.2.2.2.elim
 case mT d b h=>
  grind
 case mU S b=>
  grind
 case ks=>grind
 case me d bytes b h=>
  split at a
  case h_2=>omega
  split at a;grind;grind;grind
  .omega
 case ko=>grind
 case app d bytes b h=>
  grind
 case kp d y b z C T=>
  (repeat' split at a)<;>first
   |exact a.elim
   |simp_all
   |simp_all
   |exact a.2.2.2.elim
 case dS d b D=>
  grind
 case ma b D=>
  grind
 all_goals
  (repeat' split at a)<;>first
   |exact a.elim
   |exact c _ _ a
   |exact⟨a.1,c _ _ a.2⟩
   |exact⟨a.1,a.2.1,c _ _ a.2.2⟩
   |exact⟨a.1,a.2.1,a.2.2.1,c _ _ a.2.2.2⟩
   |exact⟨a.1,a.2.1,a.2.2.1,a.2.2.2.1,c _ _ a.2.2.2.2⟩
   |exact⟨a.1,a.2.1,a.2.2.1,a.2.2.2.1,a.2.2.2.2.1,c _ _ a.2.2.2.2.2⟩
def fM:List cb->List Value->Prop
 |[],[]=>True
 |a::bF,b::xs=>a.fit b/\fM bF xs
 |_,_=>False
def qG(b:Program)(c:TypeId->Option (List cb)):List Field->Nat->Option (List cb)
 |[],_=>β []
 |a::h,off=>
  if a.offset=off/\a.name≠ "_" then
   match c a.type,qG b c h (off+b.cellsOf a.type)with
   |some d,β k=>if b.cellsOf a.type=α d/\(b.info? a.type).isSome then β (d++k)else ζ
   |_,_=>ζ
  else ζ
def flatK(a:Program):Nat->TypeId->Option (List cb)
 |0,_=>ζ
 |c+1,d=>
  match a.underlying d with
  |some (.int k)=>β [.int k]
  |some .bool=>β [.bool]
  |some .string=>β [.str]
  |some (.array o b)=>match flatK a c b with
   |some h=>if a.cellsOf b=α h/\(a.info? b).isSome then β (ε o h).flatten else ζ
   |none=>ζ
  |some (.struct p)=>if a.stoodInHeld d then ζ else qG a (flatK a c) p.toList 0
  |_=>ζ
theorem o8:∀ {a:List cb}{b:List Value},fM a b->α b=α a
 |[],[],_=>rfl
 |_:: _,_:: _,c=>by simp[o8 c.2]
def pr:∀ {a d:List cb}{b:List Value},fM (a++d) b->fM a (b.take (α a))/\fM d (b.drop (α a))
 |[],_,_,c=>by simp[fM];trivial
 |_:: _,_,[],c=>by trivial
 |_:: _,_,_:: _,c=>by
  obtain⟨k,h⟩:=c;obtain⟨o,p⟩:=pr h;trivial
variable{e1:IntKind}{b2:TypeId}
section
def qH(d:Program)(y:Nat)(h:TypeId)(a:List cb):Prop:=
 ∀(z:Nat)(b:World)(k o:Array Value)(c:Nat),fM a ((k.toList.drop c).take (α a))->fM a ((o.toList.drop c).take (α a))->
  ∃p r x,(part h k c).run d b=.ok p b/\(part h o c).run d b=.ok r b/\(Op.equalIn (z+y) h p r).run d b=.ok x b/\
   (x=η↔(k.toList.drop c).take (α a)=(o.toList.drop c).take (α a))
def wF{a:TypeDesc}(c:m.underlying b2=β a)(b:World):(isAgg b2).run m b=.ok a.isRow b:=by unfold isAgg;rw[Sem.run_bind,run_underlying c b];cases a<;>rfl
def mh{b:TypeDesc}(k:m.underlying b2=β b)(o:b.isRow=η){c:TypeInfo}(p:m.info? b2=β c)(d:Array Value)(a:Nat)(h:World):
  (part b2 d a).run m h=.ok (.agg (d.extract a (a+c.size))) h:=by
 simp[part,wF k,o,sizeOf,typeInfo,p]
def o9{a:TypeDesc}(k:m.underlying b2=β a)(o:a.isRow=ι)(b:Array Value)(c:Nat)(d:Value)(p:b[c]?=β d)(h:World):
  (part b2 b c).run m h=.ok d h:=by
 simp[part,wF k,o,p]
def one_cell{b:Array Value}{h:cb}(c:fM [h] ((b.toList.drop e).take 1)):∃a,b[e]?=β a/\h.fit a/\(b.toList.drop e).take 1=[a]:=by
 cases d:(b.toList.drop e)with
 |nil=>simp[d,fM]at c
 |cons a k=>
  refine⟨a,?_,?_,ς⟩
  .have:(b.toList.drop e)[0]?=β a:=by simp[d]
   simpa using this
  .rw[d]at c;exact c.1
theorem IB(a b:ByteArray):a.toList=b.toList↔a=b:=by
 constructor
 .intro c;rw[ByteArray.toList_eq,ByteArray.toList_eq]at c;cases a;simp_all
 .rintro rfl;rfl
def IC(a:m.underlying b2=β (.int e1)):qH m (e+1) b2 [.int e1]:=by
 intro h b D E F k o;obtain⟨p,r,c,x⟩:=one_cell k;obtain⟨y,z,d,C⟩:=one_cell o;rw[a8Q,x,C,show h+(e+1)=(h+e)+1 by omega];cases p<;>first|exact c.elim|skip
 cases y<;>first|exact d.elim|skip
 simp only[cb.fit]at c d;subst c;subst d;exact⟨_,_,_,o9 a rfl _ _ _ r b,o9 a rfl _ _ _ z b,run_equalIn_int b _ b2 _ _ _ _ a,ς⟩
def ID(a:m.underlying b2=β .bool):qH m (e+1) b2 [.bool]:=by
 intro c b D E F d h;obtain⟨k,o,p,r⟩:=one_cell d;obtain⟨x,y,z,C⟩:=one_cell h;rw[a8Q,r,C,show c+(e+1)=(c+e)+1 by omega];cases k<;>first|exact p.elim|skip
 cases x<;>first|exact z.elim|skip
 exact⟨_,_,_,o9 a rfl _ _ _ o b,o9 a rfl _ _ _ y b,run_equalIn_bool' b _ b2 _ _ a,ς⟩
def IE(a:m.underlying b2=β .string):qH m (e+1) b2 [.str]:=by
 intro c b D E F d h;obtain⟨k,o,p,r⟩:=one_cell d;obtain⟨x,y,z,C⟩:=one_cell h;rw[a8Q,r,C,show c+(e+1)=(c+e)+1 by omega];cases k<;>first|exact p.elim|skip
 cases x<;>first|exact z.elim|skip
 exact⟨_,_,_,o9 a rfl _ _ _ o b,o9 a rfl _ _ _ y b,run_equalIn_string b _ b2 _ _ a,by rw[beq_iff_eq,IB];simp⟩
theorem B8{y:Nat}{o:TypeId}{a:List cb}(z:qH m y o a)(C:m.cellsOf o=α a)(x:Nat)(p:World)(d h:Array Value):∀(b c:Nat),
  fM (ε b a).flatten ((d.toList.drop (c*α a)).take (ε b a).flatten.length)->fM (ε b a).flatten ((h.toList.drop (c*α a)).take (ε b a).flatten.length)->
  ∃k,(Op.eqItems (x+y) o (m.cellsOf o) d h (List.range' c b)).run m p=.ok k p/\
   (k=η↔(d.toList.drop (c*α a)).take (ε b a).flatten.length=(h.toList.drop (c*α a)).take (ε b a).flatten.length)
 |0,c,_,_=>⟨η,by rfl,ς⟩
 |b+1,c,D,E=>by
  simp only[a9D,a9f]at D E|-;obtain⟨F,G⟩:=pr D;obtain⟨L,P⟩:=pr E;have W:min (α a) (a++(ε b a).flatten).length=α a:=ς;have e:(a++(ε b a).flatten).length - α a=(ε b a).flatten.length:=ς;rw[a8B,W]at F L;rw[a8H,a8d,e,show c*α a+α a=(c+1)*α a by rw[a8w,aa9]]at G P;obtain⟨l,n,k,S,T,f,g⟩:=z x p d h (c*α a) F L;obtain⟨i,q,j⟩:=B8 z C x p d h b (c+1) G P;have V:∀r:List Value,r.take (a++(ε b a).flatten).length=r.take (α a)++(r.drop (α a)).take (ε b a).flatten.length:=λr=>by
   grind
  rw[List.range'_succ];rw[<-C]at S T;simp only[Op.eqItems,Sem.run_bind,S,T,f,Result.andThen_ok];have s:((d.toList.drop (c*α a)).take (a++(ε b a).flatten).length=(h.toList.drop (c*α a)).take (a++(ε b a).flatten).length)↔(k=η/\i=η):=by rw[V,V,a8d,a8d,show c*α a+α a=(c+1)*α a by grind,g,j];grind[List.append_inj,o8]
  cases k;simp_all;simp_all
theorem B9{C:Nat}{D:TypeId->Option (List cb)}(E:∀o a,D o=β a->m.cellsOf o=α a->(m.info? o).isSome->qH m C o a)(y:Nat)(p:World)(h k:Array Value):∀(r:List Field)(b:Nat)(d:List cb),
  qG m D r b=β d->fM d ((h.toList.drop b).take (α d))->fM d ((k.toList.drop b).take (α d))->
  ∃c,(Op.eqFields (y+C) h k r).run m p=.ok c p/\(c=η↔(h.toList.drop b).take (α d)=(k.toList.drop b).take (α d))
 |[],b,d,hk,_,_=>by
  simp_all [qG,Op.eqFields]
 |s::r,b,d,hk,e,f=>by
  simp only[qG]at hk;split at hk
  case isFalse=>cases hk
  rename_i F;split at hk
  case h_2=>cases hk
  rename_i a c g i;split at hk
  case isFalse=>cases hk
  rename_i z;obtain rfl:=Δ hk;obtain⟨G,L⟩:=pr e;obtain⟨P,S⟩:=pr f;have j:min (α a) (a++c).length=α a:=ς;have l:(a++c).length - α a=α c:=ς;rw[a8B,j]at G P;rw[a8H,a8d,l,<-z.1]at L S;obtain⟨t,u,T,V,W,n,v⟩:=E _ _ g z.1 z.2 y p h k b G P;obtain⟨q,w,A⟩:=B9 E y p h k r _ _ i L S;have B:∀x:List Value,x.take (a++c).length=x.take (α a)++(x.drop (α a)).take (α c):=λx=>by
   grind
  rw[<-F.1]at V W;simp only[Op.eqFields,if_pos F.2,Sem.run_bind,V,W,n,Result.andThen_ok];have H:((h.toList.drop b).take (a++c).length=(k.toList.drop b).take (a++c).length)↔(T=η/\q=η):=by grind[List.drop_drop,List.append_inj,o8]
  cases T;simp_all;simp_all
def u4(b:Array Value)(a c:Nat):(b.extract a (a+c)).toList=(b.toList.drop a).take c:=by simp
theorem u5:∀(d:Nat)(c:TypeId)(k:List cb),flatK m d c=β k->m.cellsOf c=α k->(m.info? c).isSome->qH m d c k
 |0,c,k,a,_,_=>by trivial
 |d+1,c,k,a,T,V=>by
  simp only[flatK]at a;cases hu:m.underlying c with
  |none=>simp[hu]at a
  |some desc=>
   simp only[hu]at a;cases desc<;>simp only[]at a<;>first
    |(cases a;done)
    |skip
   case int s=>obtain rfl:=Δ a;exact IC hu
   case bool=>obtain rfl:=Δ a;exact ID hu
   case string=>obtain rfl:=Δ a;exact IE hu
   case array W g=>
    split at a
    case h_2=>cases a
    rename_i E i;split at a
    case isFalse=>cases a
    rename_i F;obtain rfl:=Δ a;have ih:=u5 d g E i F.1 F.2;obtain⟨o,p⟩:=a7Y.1 V;obtain⟨t,j⟩:=a7Y.1 F.2;have G:o.size=(ε W E).flatten.length:=by simpa[Program.cellsOf,p] using T
    intro y h r x b z C;have D:=B8 ih F.1 y h (r.extract b (b+o.size)) (x.extract b (b+o.size)) W 0;simp only[aau,a8O,u4,G]at D;rw[a8B,a9A,a8B,a9A]at D;obtain⟨L,e,P⟩:=D z C;refine⟨_,_,L,mh hu rfl p r b h,mh hu rfl p x b h,?_,P⟩;rw[show y+(d+1)=(y+d)+1 by omega,run_equalIn_array h (y+d) _ _ hu j,List.range_eq_range',G];exact e
   case struct f=>
    split at a;trivial;rename_i u;obtain⟨o,p⟩:=a7Y.1 V;have G:o.size=α k:=by simpa[Program.cellsOf,p] using T
    have v:m.fieldsOf c=f:=by simp[Program.fieldsOf,hu]
    intro y h r x b z C;have D:=λr x z C=>
     B9 (λc E l n q=>u5 d c E l n q) y h r x f.toList 0 k a z C
    have S:=D (r.extract b (b+o.size)) (x.extract b (b+o.size));simp only[a8O,u4,G]at S;rw[a8B,a9A,a8B,a9A]at S;obtain⟨L,e,P⟩:=S z C;refine⟨_,_,L,mh hu rfl p r b h,mh hu rfl p x b h,?_,P⟩;grind[run_equalIn_struct]
end
def jM(b:List (Nat×cb)):List cb:=b.flatMap λa=>ε a.1 a.2
def ng:List cb->List (Nat×cb)
 |[]=>[]
 |a::bF=>match ng bF with
  |(c,b)::d=>if a=b then(c+1,b)::d else(1,a)::(c,b)::d
  |[]=>[(1,a)]
theorem u6:∀a:List cb,jM (ng a)=a
 |[]=>rfl
 |b::a=>by
  have ih:=u6 a;grind[ng,jM]
theorem ps{P:bn}:∀(C:List (Nat×cb))(a:ύ)(b:List Value),dp C a->α b=α a->(∀(c:Nat)(d:Value)(h:R),b[c]?=β d->a[c]?=β h->aZ P d h)->
  fM (jM C) b/\a=b.map R.v
 |[],a,b,p,o,_=>by
  simp only[dp]at p;subst p;have:=a7t (by trivial);subst this;trivial
 |(r,x)::C,a,b,p,o,D=>by
  obtain⟨V,W,e⟩:=p;obtain⟨l,m⟩:=ps C (a.drop r) (b.drop r) e (by simp[o]) (λc d h G L=>D (r+c) d h (by simpa using G) (by simpa using L));have f:∀(y)(a)(b),α b=α a->α a=y->(∀k∈a,x.u3 k)->(∀(c:Nat)(d)(h),b[c]?=β d->a[c]?=β h->aZ P d h)->
    (∀E F,fM F E->fM (ε y x++F) (b++E))/\a=b.map R.v:=by
   intro y
   induction y with
   |zero=>grind
   |succ y ih=>
    intro a b o hm S D
    match a,b,o,hm with
    |k::a,v::b,o,hm=>
     obtain⟨g,i⟩:=ih a b (by simpa using o) (by simpa using hm) (λk z=>S k (a8L _ z)) (λc d h G L=>D (c+1) d h (by trivial) (by trivial));have z:=S k a9k;have j:=D 0 v k rfl rfl;have T:k=.v v/\x.fit v:=by
      cases k<;>first
       |(cases x<;>exact z.elim)
       |skip
      cases j;refine⟨rfl,?_⟩;cases x<;>cases v<;>first|exact z|exact z.elim
     refine⟨λE F p=>⟨T.2,g E F p⟩,by rw[T.1,i];rfl⟩
  obtain⟨n,q⟩:=f r (a.take r) (b.take r) (by simp[o]) (by simp[V]) W (λc d h G L=>by
   grind)
  grind[jM,List.take_append_drop]
def bV(y:Program)(z:R->U->Prop)(o:Oper)(h:Act)(k:World)(p:bn)(r:U)(C:R->U->Prop):Prop:=
 ∀x:Exit->Act->World->Prop,(∀v a b c d,Step p r k b c d->aZ b v a->up z a c->x (.panic [{v,recovered:=ι}]) h d)->o.wp y h k (λD d=>∃v b c a,D=h.put o.dst v/\Step p r k b c d/\aZ b v a/\C a c) x
variable{N e6 h6:Own}
section
variable{o:Oper}{a:Act}
def bV.value{v:Value}{b:bn}(c:(execOp a.eval o).run m l=.ok (.value v) h9)(d:Step u f l b s h9)(h:aZ b v n)(k:Z n s):bV m t o a l u f Z:=by intro p _;unfold Oper.wp;rw[c];exact⟨v,b,s,n,rfl,d,h,k⟩
def bV.same{v:Value}(b:Holds u f l)(c:(execOp a.eval o).run m l=.ok (.value v) l)(d:aZ u v n)(h:Z n f):bV m t o a l u f Z:=
 .value c (.refl b) d h
def bV.skip{b:bn}(c:(execOp a.eval o).run m l=.ok .skip h9)(d:Step u f l b s h9)(h:Z (.aJ []) s):bV m t o a l u f Z:=by intro k _;unfold Oper.wp;rw[c];exact⟨undef,b,s,.aJ [],rfl,d,aZ.undef _,h⟩
def aZ.dD{b:Value}(c:aZ u e5 (.v b)):e5=b:=by cases c;rfl
def aZ.jN(b:aZ u e5 (.ptr e i)):e5=.pointer (β ⟨e,i,ζ⟩):=by cases b;rfl
theorem aZ.aM{k:Array Value}{c:ύ}(p:bx u k c)(r:∀h∈c,h.one=η)(b d:Nat)(x:b+d<=α c):aZ u (.agg (k.extract b (b+d))) (aM η d (c.drop b)):=by have:=p.sub b d x;exact .agg _ _ (λh y=>r h (a7U (a7A y))) this.1 this.2
theorem aZ.wG{c:Array Value}(d:bx u c g)(b:Nat)(p:b+1<=α g):aZ u (c.getD b Go.undef) (bD.aM ι 1 (g.drop b)):=by
 have h:b<α g:=δ;have:=d.2 b g[b] (Ρ h);have k:bD.aM ι 1 (g.drop b)=g[b]:=by unfold bD.aM;simp_all
 rw[k];exact this
theorem Holds.read{l:Nat}{p:ύ}(k:Holds u f h9)(b:f.read l=β p):(∀h∈p,h.one=η)/\∃d T z,h9.heap[l]?=β (.cells d T z)/\bx u d p:=by
 unfold U.read at b;split at b
 .rename_i h c;obtain rfl:=Δ b;obtain⟨r,d,T,x,y,_⟩:=k.cT l _ c;simp_all
 .rename_i h c;obtain rfl:=Δ b;obtain⟨r,d,T,z,x,y,_⟩:=k.cT l _ c;simp_all
 .rename_i T h c;obtain rfl:=Δ b;obtain⟨r,d,x,y,_⟩:=k.cT l _ c;simp_all
 .rename_i h c;obtain rfl:=Δ b;obtain⟨r,d,T,x,y,_⟩:=k.cT l _ c;simp_all
 .cases b
def wH(b:World)(c:TypeId)(d:TypeDesc)(h:Addr)(k:Value)(p:m.underlying c=β d)(r:d.isRow=ι)(x:b.cell? h=β k):(loadVar c h).run m b=.ok k b:=by simp[loadVar,wF p,r,x]
theorem IF(r:TypeId)(C:Operand)(S:o.op=.load r C)(h:TypeDesc)(y:m.underlying r=β h)(c:Nat)(B:(m.info? r).map (·.size)=β c)(H:h.isRow=ι->c=1)
  (M:aQ C=η) (N:bP u a j) (z:Holds u f l) (D:G ⟨m,t⟩ (.load h.isRow c C) j f Z):bV m t o a l u f Z:=by
 have E:=N.al C M;simp only[G]at D;split at D
 .rename_i F b i;rw[i]at E;have I:=E.jN;split at D
  case h_2=>trivial
  rename_i V O;obtain⟨W,k⟩:=D;obtain⟨n,p,T,k2,Q,e⟩:=z.read O;cases d:h.isRow with
  |true=>
   rw[d]at k;have q:l.rangeAt F b ((p.toList.drop b).take c):=by intro L v s;grind[cell_of_row]
   have X:((p.toList.drop b).take c).length=c:=by have:=e.1;simp;omega
   have x:=run_loadAt_mid l F b r ((p.toList.drop b).take c) h q y d (by rw[X];exact B);refine .same z (v:=.agg ((p.toList.drop b).take c).toArray) ?_ ?_ k
   .simp[execOp,S,I,x]
   .have:=aZ.aM e n b c W;rw[show((p.toList.drop b).take c).toArray=p.extract b (b+c) by grind];exact this
  |false=>
   rw[d]at k;obtain rfl:=H d;have Y:b<p.size:=by have:=e.1;omega
   have P:l.cell? ⟨F,b,ζ⟩=β (p.getD b undef):=by rw[cell_of_row l F b p T _ Q];simp[Y]
   have x:=wH l r h ⟨F,b,ζ⟩ _ y d P;refine .same z ?_ (aZ.wG e b W) k;simp[execOp,S,I,Instr.loadAt,Instr.sureAddr,x]
 .rename_i V i;rw[i]at E;obtain⟨W,k⟩:=D;generalize K:a.eval C=k3 at E;cases E with
  |bS w b g V n hH j9=>
   have k0:=λL s=>z.ro _ _ _ (hH L s);cases d:h.isRow with
   |true=>
    rw[d]at k;have q:l.rangeAt w b ((ω c).map g):=by intro L v s;grind
    have x:=run_loadAt_mid l w b r ((ω c).map g) h q y d (by simp[B]);refine .same z (v:=.agg ((ω c).map g).toArray) ?_ ?_ k
    .simp only[execOp,S,K,Sem.run_bind,x];rfl
    .refine .agg _ _ (λA P=>n A (a7A P)) Μ (λL k4 y=>?_);have k1:L<c:=by grind
     rw[a8s k1]at y;simp_all
   |false=>
    rw[d]at k;obtain rfl:=H d;have P:=k0 0 δ;have x:=wH l r h ⟨w,b,ζ⟩ _ y d P;refine .same z (v:=g 0) ?_ ?_ k
    .simp[execOp,S,K,Instr.loadAt,Instr.sureAddr,x]
    .match V,W with
     |A::V,_=>exact j9 0 A rfl
 .trivial
theorem IG(k:TypeId)(c b:Array Value)(d:Nat){h:Nat×Nat}(x:l.heap[e]?=β (.cells c b2 h))(y:∀p,p<c.size->¬(h.1<=p/\p<h.2))(F:d+b.size<=c.size)(z:∀C∈b.toList,C.oneCell'=η)(v:Value)(G:v.cells=b)
  (D:(m.info? k).map (·.size)=β b.size):(Instr.storeAt k (.pointer (β ⟨e,d,ζ⟩)) v).run m l=.ok () (l.setRow e (df c d b.toList)):=by
 have r:=u2 m e d b2 h b.toList 0 c l x y (by trivial) z;simp only[a9p]at r;have L:(storeCells ⟨e,d,ζ⟩ b.toList).run m l=.ok () (l.setRow e (df c d b.toList)):=by rw[r];rfl
 cases E:m.info? k with
 |none=>simp[E]at D
 |some P=>simp_all [Instr.storeAt,Instr.sureAddr,storeVar,sizeOf,typeInfo]
def IH(k:TypeId)(c b:Operand)(C:o.op=.store k c b)(p:Nat)(D:(m.info? k).map (·.size)=β p)(v:0<p)(E:aQ c=η)(F:aQ b=η)(r:bP u a j)(L:Holds u f l)
  (d:G ⟨m,t⟩ (.store p c b) j f Z):bV m t o a l u f Z:=by
 have x:=r.al c E;have P:=r.al b F;simp only[G]at d;split at d
 case h_2=>trivial
 rename_i w y S;rw[S]at x;split at d
 .rename_i A V;obtain⟨W,B,e⟩:=d;have g:=x.jN;obtain⟨h,z⟩:=P.cells δ;obtain⟨i,T,n,H,q⟩:=Step.store L V y (al j b).cells (a.eval b).cells h z δ;refine .skip ?_ q e;have s:=IG k i (a.eval b).cells y n (wB _) (by have:=h.1;omega) (h.o3 z) (a.eval b) rfl (by rw[D,h.1,W]);simp only[execOp,C,g,Sem.run_bind,s];rfl
 .trivial
def II(c:TypeId)(p:o.op=.alloc c)(h:TypeInfo)(r:m.info? c=β h)(b:Value)(x:h.zero=β b)(y:∀d∈b.cells.toList,d.oneCell'=η)(k:Holds u f l)
  (z:G ⟨m,t⟩ (.alloc c (b.cells.toList.map cv)) j f Z):bV m t o a l u f Z:=by
 refine .value ?_ (Step.new k b.cells c (b.cells.toList.map cv) (λD C=>by obtain⟨d,_,rfl⟩:=a7G.1 C;exact o5 d) (bx.ph u _ y))
  (.ptr _ _) (z _ k.ek)
 simp[execOp,p,Instr.alloc,zeroValue,typeInfo,r,x,newVar,newRow]
theorem IJ(c:TypeId)(b:Operand)(k:o.op=.box c b)(p:aQ b=η)(r:bP u a j)(d:Holds u f l)(h:G ⟨m,t⟩ (.box c b) j f Z):bV m t o a l u f Z:=by obtain⟨x,y⟩:=(r.al b p).cells h.1;refine .value ?_ (Step.new d _ c _ y x) (.ptr _ _) (h.2 _ d.ek);simp[execOp,k,Instr.box,newVar,newRow]
def Ba(b:Operand)(c:o.op=.move b\/o.op=.assign b)(d:aQ b=η)(h:bP u a j)(k:Holds u f l)(p:G ⟨m,t⟩ (.fg b) j f Z):bV m t o a l u f Z:=by refine .same k ?_ (h.al b d) p;rcases c with c|c<;>simp[execOp,c]
theorem IK(b c d:Operand)(k:o.op=.pick b c d)(z:aQ b=η)(C:aQ c=η)(D:aQ d=η)(h:bP u a j)(p:Holds u f l)(r:G ⟨m,t⟩ (.pick b c d) j f Z):bV m t o a l u f Z:=by
 have x:=h.al b z;simp only[G]at r;split at r
 case h_2=>trivial
 rename_i E F;rw[F]at x;have y:=x.dD;cases E
 .exact .same p (by simp[execOp,k,y,asBool]) (h.al d D) (by trivial)
 .exact .same p (by simp[execOp,k,y,asBool]) (h.al c C) (by trivial)
def IL(c:Operand)(k:o.op=.nilCheck c)(x:aQ c=η)(y:bP u a j)(p:Holds u f l)(d:G ⟨m,t⟩ (.qz c) j f Z):bV m t o a l u f Z:=by
 have b:=y.al c x;simp only[G]at d;split at d
 .rename_i D E h;rw[h]at b;have:=b.jN;exact .same p (by simp[execOp,k,this]) (.ptr _ _) d
 .rename_i z h;rw[h]at b;generalize r:a.eval c=C at b;refine .same p ?_ b d;cases b;simp[execOp,k,r]
 .rename_i F z h;rw[h]at b;generalize r:a.eval c=C at b;refine .same p ?_ b d;cases b;simp[execOp,k,r]
 .trivial
theorem Bb(k:aZ u e5 (.bS g))(d:Nat):∃b c,e5=.pointer (β ⟨b,c,ζ⟩)/\aZ u (.pointer (β ⟨b,c+d,ζ⟩)) (.bS (g.drop d)):=by
 cases k with
 |bS b c p g r hH z=>refine⟨b,c,rfl,.bS b (c+d) (λh=>p (d+h)) _ (λx y=>r x (a7U y)) (λh C=>?_) (λh D E=>?_)⟩;grind;grind
theorem hA(b c d:Nat):(⟨b,c,ζ⟩:Addr).add d=⟨b,c+d,ζ⟩:=Addr.add_mid b c d
theorem IM(r:TypeId)(d:Operand)(x:Nat)(C:o.op=.fieldAddr r d x)(D:Array Field)(e:m.underlying r=β (.struct D))(b:Field)(g:D[x]?=β b)(E:Nat)(P:(m.info? b.type).map (·.size)=β E)(i:E≠0)
  (S:aQ d=η) (T:bP u a j) (F:Holds u f l) (h:G ⟨m,t⟩ (.ln b.offset d) j f Z):bV m t o a l u f Z:=by
 have k:=T.al d S;have L:∀p c:Nat,(Instr.fieldAt r (.pointer (β ⟨p,c,ζ⟩)) x).run m l=.ok (.pointer (β ⟨p,c+b.offset,ζ⟩)) l:=by
  intro p c;cases V:m.info? b.type with
  |none=>simp[V]at P
  |some ii=>simp_all [Instr.fieldAt,run_underlying,Instr.sureAddr,fieldPlace,sizeOf,typeInfo,hA]
 simp only[G]at h;split at h
 .rename_i n c y;rw[y]at k;have z:=k.jN;exact .same F (by simp only[execOp,C,z,Sem.run_bind,L];rfl) (.ptr _ _) h
 .rename_i q y;rw[y]at k;obtain⟨p,c,z,W⟩:=Bb k b.offset;exact .same F (by simp only[execOp,C,z,Sem.run_bind,L];rfl) W h
 .trivial
theorem IN(C:TypeId)(h k:Operand)(A:o.op=.indexAddr C h k)(D:Nat)(E:TypeId)(W:m.underlying C=β (.array D E))(c:Nat)(S:(m.info? E).map (·.size)=β c)
  (e:aQ h=η) (g:aQ k=η) (T:bP u a j) (V:Holds u f l) (p:G ⟨m,t⟩ (.qA c D h k) j f Z):bV m t o a l u f Z:=by
 have r:=T.al h e;have x:=T.al k g;have B:∀(y d)(z)(b:Int),0<=b->b<D->(Instr.indexAt C (.pointer (β ⟨y,d,ζ⟩)) (.int z b)).run m l=.ok (.pointer (β ⟨y,d+b.toNat*c,ζ⟩)) l:=by
  intro y d z b i n;cases F:m.info? E with
  |none=>simp[F]at S
  |some ii=>
   have q:ii.size=c:=by simpa[F] using S
   simp[Instr.indexAt,asIntOf,run_underlying W,Instr.sureAddr,i,n,sizeOf,typeInfo,F,q,hA]
 simp only[G]at p;split at p
 .rename_i H d z b L P;rw[L]at r;rw[P]at x;have s:=r.jN;have v:=x.dD;exact .same V (by simp_all [execOp]) (.ptr _ _) p.2.2
 .rename_i I z b L P;rw[L]at r;rw[P]at x;have v:=x.dD;obtain⟨y,d,s,w⟩:=Bb r (b.toNat*c);exact .same V (by simp_all [execOp]) w p.2.2
 .trivial
theorem cU{d:Nat}:∀ {b:ύ},(∀c∈b,α c.cells=d)->(flat b).length=α b*d
 |[],_=>by simp[flat]
 |k::b,h=>by
  have:=cU (λc p=>h c (a8L _ p));have r:=h k a9k;simp only[flat,a7P,Ψ,a7s,a8w,aa9]at this|-;omega
theorem gh{d:Nat}:∀ {c:ύ} (b:Nat),(∀h∈c,α h.cells=d)->(flat c).drop (b*d)=flat (c.drop b)/\(flat c).take (b*d)=flat (c.take b)
 |c,0,_=>by simp[flat]
 |[],b+1,_=>by simp[flat]
 |k::c,b+1,p=>by
  obtain⟨x,y⟩:=gh b (λh r=>p h (a8L _ r));have z:=p k a9k;have h:(b+1)*d=α k.cells+b*d:=by grind
  grind[flat,List.drop_append,List.drop_of_length_le,Nat.add_sub_cancel_left]
def aZ.wI(x:aZ u e5 (.J g N))(L:g≠[]):∃(c d h k:Nat)(p:Nat->Value),e5=.slice (β ⟨c,d,ζ⟩) (α g) h/\0<k/\α g<=h/\(∀y∈g,α y.cells=k)/\(∀z∈flat g,z.one=η)/\
  (∀b,b<α g*k->u c (d+b)=β (p b))/\(∀b r,(flat g)[b]?=β r->aZ u (p b) r)/\N.ok c d h:=by
 cases x with
 |di=>trivial
 |J c d len h k p g N hk hlen C D E hH F G=>subst hlen;exact⟨c,d,h,k,p,rfl,hk,C,D,E,hH,F,G⟩
theorem IP(e:TypeId)(y S:Operand)(O:o.op=.indexAddr e y S)(g:TypeId)(T:m.underlying e=β (.slice g))(c:Nat)(A:(m.info? g).map (·.size)=β c)
  (Q:aQ y=η) (X:aQ S=η) (B:bP u a j) (i:Holds u f l) (h:G ⟨m,t⟩ (.dS c y S) j f Z):bV m t o a l u f Z:=by
 have k:=B.al y Q;have z:=B.al S X;have Y:∀(C p len r:Nat)(D)(b:Int),0<=b->b<len->(Instr.indexAt e (.slice (β ⟨C,p,ζ⟩) len r) (.int D b)).run m l=.ok (.pointer (β ⟨C,p+b.toNat*c,ζ⟩)) l:=by
  intro C p len r D b E V;cases n:m.info? g with
  |none=>simp[n]at A
  |some ii=>
   have j9:ii.size=c:=by simpa[n] using A
   simp[Instr.indexAt,asIntOf,run_underlying T,E,V,sizeOf,typeInfo,n,j9,hA]
 simp only[G]at h;split at h
 .rename_i q k8 D b F L;rw[F]at k;rw[L]at z;have s:=z.dD;obtain⟨E,h⟩:=h;split at h
  case h_2=>trivial
  rename_i el H;obtain⟨k0,P⟩:=h;have k9:=(a7u.1 H).1;obtain⟨C,p,r,v,k1,l0,l1,I,w,l2,k2,k3,_⟩:=k.wI (by grind);have k4:=a7r H;obtain rfl:c=v:=by rw[<-k0];exact w el k4
  have l3:b<(α q):=δ;refine .same i (v:=.pointer (β ⟨C,p+b.toNat*c,ζ⟩)) (by simp_all [execOp]) ?_ P;have K:∀d x,el.cells[d]?=β x->(flat q)[b.toNat*c+d]?=β x:=λd x T=>by
   have l4:=(gh b.toNat w).1;have:((flat q).drop (b.toNat*c))[d]?=β x:=by grind[Ν,Ζ,flat,List.getElem?_append_left]
   simpa using this
  refine .bS C _ (λd=>k1 (b.toNat*c+d)) _ (λl5 l6=>?_) (λd k5=>?_) (λd x T=>k3 _ x (K d x T));grind[List.getElem?_of_mem,List.mem_of_getElem?]
  .rw[aaE];refine k2 _ ?_;have:=(a7u.1 (K d _ (Ρ k5))).1;rwa[cU w]at this
 .rename_i W p len l7 v D b F L;rw[F]at k;rw[L]at z;have s:=z.dD;obtain⟨rfl,E,V,P⟩:=h;generalize M:a.eval y=k6 at k;cases k with
  |bE W p len r c k7 I=>exact .same i (by simp_all [execOp]) (.ptr _ _) P
 .rename_i W len r v D b F L;rw[F]at k;rw[L]at z;have s:=z.dD;obtain⟨rfl,E,V,P⟩:=h;generalize M:a.eval y=k6 at k;cases k with
  |aq W len r c k7 I=>have N:=Y W 0 len r D b E V;rw[a7Q]at N;exact .same i (by simp only[execOp,O,M,s,Sem.run_bind,N];rfl) (.ptr _ _) P
 .trivial
end
section
variable{o:Oper}{a:Act}
theorem Bc{c:Array Value}(p:bx u c g)(L:∀z∈g,z.one=η)(h:TypeId)(k:TypeDesc)(C:m.underlying h=β k)(d:Nat)(r:(m.info? h).map (·.size)=β d)(D:k.isRow=ι->d=1)
  (b:Nat) (E:b+d<=α g):∃v,(∀l,(part h c b).run m l=.ok v l)/\aZ u v (aM k.isRow d (g.drop b)):=by
 cases x:m.info? h with
 |none=>simp[x]at r
 |some F=>
  have P:F.size=d:=by simpa[x] using r
  cases y:k.isRow with
  |true=>simp_all [mh,aZ.aM]
  |false=>
   obtain rfl:=D y;have G:b<c.size:=by have:=p.1;omega
   exact⟨_,λl=>o9 C y c b (c.getD b undef) (by simp[G]) l,aZ.wG p b E⟩
def IQ(r:TypeId)(c:Operand)(x:Nat)(z:o.op=.field r c x)(y:Array Field)(C:m.underlying r=β (.struct y))(b:Field)(D:y[x]?=β b)(h:TypeDesc)(E:m.underlying b.type=β h)(k:Nat)
  (F:(m.info? b.type).map (·.size)=β k) (L:h.isRow=ι->k=1) (P:aQ c=η) (S:bP u a j) (T:Holds u f l) (d:G ⟨m,t⟩ (.po h.isRow b.offset k c) j f Z):bV m t o a l u f Z:=by
 have p:=S.al c P;simp only[G]at d;split at d
 case h_2=>exact d.elim
 rename_i V W;rw[W]at p;generalize e:a.eval c=w at p;cases p with
 |agg A V g i n=>obtain⟨v,q,s⟩:=Bc ⟨i,n⟩ g b.type h E k F L b.offset d.1;exact .same T (by simp[execOp,z,e,Instr.field,run_underlying C,D,asAgg,q]) s d.2
theorem IS(y:TypeId)(c h:Operand)(B:o.op=.index y c h)(z:Nat)(d:TypeId)(H:m.underlying y=β (.array z d))(k:TypeDesc)(F:m.underlying d=β k)(b:Nat)
  (p:(m.info? d).map (·.size)=β b) (L:k.isRow=ι->b=1) (P:aQ c=η) (S:aQ h=η) (C:bP u a j) (T:Holds u f l) (r:G ⟨m,t⟩ (.pj k.isRow b z c h) j f Z):bV m t o a l u f Z:=by
 have x:=C.al c P;have D:=C.al h S;simp only[G]at r;split at r
 case h_2=>trivial
 rename_i V I W e g;rw[e]at x;rw[g]at D;have K:=D.dD;generalize M:a.eval c=N at x;cases x with
 |agg O V i n q=>
  obtain⟨Q,hm,s,w⟩:=r;obtain⟨v,X,A⟩:=Bc ⟨n,q⟩ i d k F b p L (W.toNat*b) s;cases E:m.info? d with
  |none=>simp[E]at p
  |some ii=>
   have Y:ii.size=b:=by simpa[E] using p
   exact .same T (by simp_all [execOp,Instr.index,asIntOf,run_underlying,sizeOf,typeInfo]) A w
def IT(h:TypeId)(c d:Operand)(C:o.op=.index h c d)(D:m.underlying h=β .string)(E:aQ c=η)(F:aQ d=η)(k:bP u a j)(L:Holds u f l)(b:G ⟨m,t⟩ (.ma c d) j f Z):bV m t o a l u f Z:=by
 have p:=k.al c E;have r:=k.al d F;simp only[G]at b;split at b
 case h_2=>trivial
 rename_i x n y P S;rw[P]at p;rw[S]at r;have T:=p.dD;have V:=r.dD;obtain⟨W,b⟩:=b;split at b
 case h_2=>trivial
 rename_i e z;have g:x[y.toNat]?=β e:=by have i:=(a8D.1 z).1;rw[getElem?_pos x y.toNat i];have:=(a8D.1 z).2;rw[<-this];rfl
 exact .same L (by simp[execOp,C,T,V,Instr.index,asIntOf,run_underlying D,W,g]) (.v _ rfl) b
theorem IU(b:Operand)(c:Nat)(k:o.op=.extract b c)(p:aQ b=η)(r:bP u a j)(x:Holds u f l)(d:G ⟨m,t⟩ (.ext b c) j f Z):bV m t o a l u f Z:=by
 have h:=r.al b p;simp only[G]at d;split at d
 case h_2=>trivial
 rename_i y z;rw[z]at h;split at d
 case h_2=>trivial
 rename_i C D;generalize E:a.eval b=P at h;cases h with
 |aJ us y S F=>
  have L:c<us.size:=by grind
  have:=F c C D;refine .same x ?_ this d;simp[execOp,k,E,Instr.extract,L]
def IV(L:TypeId)(c:Operand)(x:o.op=.call {callee:=.builtin .len,args:=#[c],argTypes:=#[L]})(T:TypeId)(y:m.underlying L=β (.slice T))
  (V:aQ c=η) (W:bP u a j) (z:Holds u f l) (h:G ⟨m,t⟩ (.len c) j f Z):bV m t o a l u f Z:=by
 have b:=W.al c V;simp only[G]at h;split at h
 .rename_i P e k;rw[k]at b;generalize p:a.eval c=C at b;have D:∃E d,C=.slice E (α P) d:=by
   cases b with
   |di E d=>simp
   |J n S len d r q P e hk D=>subst D;simp
  obtain⟨E,d,rfl⟩:=D;exact .same z (by simp[execOp,x,resolve,invoke,builtin,p,Builtin.len_,run_underlying y,goInt]) (.v _ rfl) h
 .rename_i F S g s r k;rw[k]at b;generalize p:a.eval c=C at b;cases b with
  |bE F S len d r hk i=>exact .same z (by simp[execOp,x,resolve,invoke,builtin,p,Builtin.len_,run_underlying y,goInt]) (.v _ rfl) h
 .rename_i F g d r k;rw[k]at b;generalize p:a.eval c=C at b;cases b with
  |aq F len d r hk i=>exact .same z (by simp[execOp,x,resolve,invoke,builtin,p,Builtin.len_,run_underlying y,goInt]) (.v _ rfl) h
 .trivial
def IW(d:TypeId)(b:Operand)(k:o.op=.call {callee:=.builtin .len,args:=#[b],argTypes:=#[d]})(p:m.underlying d=β .string)
  (r:aQ b=η) (x:bP u a j) (y:Holds u f l) (c:G ⟨m,t⟩ (.qB b) j f Z):bV m t o a l u f Z:=by
 have h:=x.al b r;simp only[G]at c;split at c
 .rename_i D z;rw[z]at h;have C:=h.dD;exact .same y (by simp[execOp,k,resolve,invoke,builtin,C,Builtin.len_,run_underlying p,goInt]) (.v _ rfl) c
 .trivial
theorem IX(c:BinOp)(x:TypeId)(k p d:Value)(b:bt c k p=β d)(r:World):(binOp c x k p).run m r=.ok d r/\d.oneCell'=true:=by
 unfold bt at b;split at b
 .rename_i C D E F;split at b
  .rename_i h;unfold o6 at b;split at b
   .cases b
   .rename_i y;cases c<;>simp[fy]at h<;>simp only[]at b<;>(obtain rfl:=Δ b)<;>simp[binOp,Op.shift,y,Value.oneCell']
  .rename_i h;split at b
   .rename_i z;subst z;cases c<;>simp[fy]at h<;>simp only[hT]at b<;>first
     |(split at b<;>first|(cases b;done)|skip)
     |skip
    all_goals (obtain rfl:=Δ b)
    all_goals simp_all [binOp,Op.intArith,Op.intDiv,Op.intBits,Op.intCmp,Value.oneCell']
    all_goals grind
   .cases b
 .unfold qx at b;cases c<;>simp only[]at b<;>first
   |(cases b;done)
   |(split at b<;>first|(cases b;done)|skip)
   |skip
  all_goals (obtain rfl:=Δ b)
  all_goals simp[binOp,Op.stringOp,Value.oneCell']
  omega
 .cases b
def IY(b:BinOp)(p:TypeId)(r x:Operand)(d h:Value)(c:(bt b d h).isSome)(k:World):(eqGuard b p r x d h).run m k=.ok () k:=by
 unfold bt at c;split at c<;>first
  |(cases b<;>simp[eqGuard];done)
  |simp at c
theorem wJ(h:BinOp)(k:TypeId)(b c:Operand)(y:TypeId)(V:o.op=.binOp h k b c y)(z:aQ b=η)(C:aQ c=η)(p:bP u a j)(D:Holds u f l)(d:G ⟨m,t⟩ (.bin h b c) j f Z):bV m t o a l u f Z:=by
 have r:=p.al b z;have x:=p.al c C;simp only[G]at d;split at d
 case h_2=>trivial
 rename_i E v F L;rw[F]at r;rw[L]at x;have W:=r.dD;have e:=x.dD;split at d
 case h_2=>trivial
 rename_i P S;obtain⟨g,T⟩:=IX (m:=m) h k E v P S l;exact .same D (by simp_all [execOp,IY]) (.v _ T) d
def IZ(c:UnOp)(x:TypeId)(d:Operand)(y:o.op=.unOp c x d)(z:aQ d=η)(C:bP u a j)(D:Holds u f l)(h:G ⟨m,t⟩ (.un c d) j f Z):bV m t o a l u f Z:=by
 have k:=C.al d z;simp only[G]at h;split at h
 case h_2=>trivial
 rename_i E F;rw[F]at k;have L:=k.dD;split at h
 case h_2=>trivial
 rename_i p b;have r:(Op.unary c E).run m l=.ok p l/\p.oneCell'=true:=by
  unfold o7 at b;split at b
  .cases c<;>simp only[]at b<;>first|(cases b;done)|skip
   obtain rfl:=Δ b;trivial
  .cases c<;>simp only[]at b<;>first|(cases b;done)|skip
   all_goals (obtain rfl:=Δ b)
   all_goals simp[Op.unary,Op.intArith,Op.intBits,Value.oneCell']
  .cases b
 exact .same D (by simp[execOp,y,L,r.1]) (.v _ r.2) h
def J0(d h:TypeId)(b:Operand)(r:o.op=.convert d h b)(k x:IntKind)(y:m.underlying d=β (.int x))(z:m.underlying h=β (.int k))(C:aQ b=η)(D:bP u a j)(E:Holds u f l)(c:G ⟨m,t⟩ (.je k b) j f Z):bV m t o a l u f Z:=by
 have p:=D.al b C;simp only[G]at c;split at c
 case h_2=>trivial
 rename_i P S F;rw[F]at p;have L:=p.dD;exact .same E (by simp[execOp,r,L,convert,run_underlying y,run_underlying z,Conv.intToInt]) (.v _ rfl) c
theorem J1(D:Bool)(b:TypeId)(k p:Operand)(w:TypeId)(l2:o.op=.binOp (if D then .neq else .eql) b k p w)(d:Nat)(c:List cb)(A:flatK m d b=β c)(S:m.cellsOf b=α c)(T:(m.info? b).isSome)(l3:d<=10000)
  (B:(m.underlying b).any (·.isRow)=η) (l4:m.eqGuardType m.depth b=ι) (H:aQ k=η) (I:aQ p=η) (V:bP u a j) (W:Holds u f l) (E:G ⟨m,t⟩ (.eqv D (ng c) k p) j f Z):bV m t o a l u f Z:=by
 have F:=V.al k H;have L:=V.al p I;simp only[G]at E;split at E
 case h_2=>trivial
 rename_i r x K M;rw[K]at F;rw[M]at L;generalize l5:a.eval k=l6 at F;generalize l7:a.eval p=l8 at L;cases F with
 |agg h r l9 N O=>
  cases L with
  |agg us x n0 Q X=>
   obtain⟨Y,j9,e⟩:=E;have g:bx u h r:=⟨N,O⟩;have i:bx u us x:=⟨Q,X⟩;obtain⟨n,k0⟩:=ps _ r h.toList Y (bx.dZ.1 g).1 (bx.dZ.1 g).2;obtain⟨q,k1⟩:=ps _ x us.toList j9 (bx.dZ.1 i).1 (bx.dZ.1 i).2;rw[u6]at n q;have k2:h.size=α c:=by have:=o8 n;trivial
   have k3:us.size=α c:=by have:=o8 q;trivial
   obtain⟨P,s⟩:=a7Y.1 T;have v:P.size=α c:=by simpa[Program.cellsOf,s] using S
   obtain⟨y,k4⟩:∃y,m.underlying b=β y:=by
    cases hu:m.underlying b with
    |none=>simp[hu]at B
    |some y=>simp
   have k5:y.isRow=true:=by simp_all
   obtain⟨n1,n2,k6,z,C,k7,k8⟩:=u5 d b c A S T (10000 - d) l h us 0 (by grind) (by grind);rw[mh k4 k5 s]at z C;have k9:h.extract 0 (0+P.size)=h:=by rw[a7Q,v,<-k2];simp
   have l0:us.extract 0 (0+P.size)=us:=by rw[a7Q,v,<-k3];simp
   rw[k9]at z;rw[l0]at C;simp only[Result.ok.injEq,and_true]at z C;subst z;subst C;rw[show 10000 - d+d=10000 by omega]at k7;have l1:k6=peq (.agg r) (.agg x):=by rw[a9T,qy,k8,a8O,a8O,k0,k1];grind[Ε,R.agg.injEq,List.map_inj_right]
   subst l1;cases D
   .refine .same W ?_ (.v _ rfl) (by simpa using e);simp_all [execOp,run_eqGuard_agg,run_eql_struct]
   .refine .same W ?_ (.v _ rfl) (by simpa using e);simp_all [execOp,run_eqGuard_agg,run_neq_struct]
def J2(y:Bool)(c:TypeId)(z F:Operand)(e:TypeId)(h:o.op=.binOp (if y then .neq else .eql) c z F e)(P:TypeId)(S:m.underlying c=β (.pointer P))(T:TypeInfo)(w:m.info? P=β T)(A:T.size≠0)(g:aQ z=η)(i:aQ F=η)(V:bP u a j)(k:Holds u f l)
  (p:G ⟨m,t⟩ (.qC y z F) j f Z):bV m t o a l u f Z:=by
 have d:=V.al z g;have r:=V.al F i;have n:m.pointee c=P:=by simp[Program.pointee,S]
 have q:m.underlying c=β (.pointer (m.pointee c)):=by rw[n];exact S
 have x:∀L:Option Addr,(Op.equalIn 10000 c (.pointer L) (.pointer ζ)).run m l=.ok L.isNone l:=λL=>run_equalIn_pointer_nil l 9999 c L q;simp only[G]at p;split at p
 .rename_i B s C D;rw[C]at d;rw[D]at r;have E:=d.jN;have b:=r.dD;cases y
  .exact .same k (by simp[execOp,h,E,b,eqGuard,binOp,Op.equal,Op.maxDepth,x]) (.v _ rfl) p
  .exact .same k (by simp[execOp,h,E,b,eqGuard,binOp,Op.equal,Op.maxDepth,x]) (.v _ rfl) p
 .rename_i v C D;rw[C]at d;rw[D]at r;have b:=r.dD;generalize W:a.eval z=H at d;cases d with
  |bS I s K v M hH N=>
   cases y
   .exact .same k (by simp[execOp,h,W,b,eqGuard,binOp,Op.equal,Op.maxDepth,x]) (.v _ rfl) p
   .exact .same k (by simp[execOp,h,W,b,eqGuard,binOp,Op.equal,Op.maxDepth,x]) (.v _ rfl) p
 .rename_i C D;rw[C]at d;rw[D]at r;have E:=d.dD;have b:=r.dD;cases y
  .exact .same k (v:=.bool η) (by simp[execOp,h,E,b,eqGuard,binOp,Op.equal,Op.maxDepth,x]) (.v _ rfl) (by trivial)
  .exact .same k (v:=.bool ι) (by simp[execOp,h,E,b,eqGuard,binOp,Op.equal,Op.maxDepth,x]) (.v _ rfl) (by trivial)
 .trivial
theorem J3(b:FuncId)(c:Func)(args:Array Operand)(y:Array TypeId)(z:o.op=.call {callee:=.value (.func b),args,argTypes:=y})(C:m.funcs[b]?=β c)(D:c.body.isSome) (E:c.name≠ "runtime.NumGoroutine")
  (F:∀h∈args.toList,aQ h=η) (L:bP u a j) (r:Holds u f l) (P:G ⟨m,t⟩ (.gg b args.toList) j f Z):bV m t o a l u f Z:=by
 intro g i;have S:bx u (args.map a.eval) (args.toList.map (al j)):=by
  refine bx.dZ.2 ⟨ς,λT h V d k=>?_⟩;rw[a9P,a7R]at d;rw[a7R]at k;cases p:args.toList[T]? with
  |none=>simp[p]at d
  |some op=>
   rw[p]at d k;obtain rfl:a.eval op=h:=by simpa using d
   obtain rfl:al j op=V:=by simpa using k
   exact L.al op (F op (a7r p))
 have W:=P (args.map a.eval) l u S r;have e:(execOp a.eval o).run m l=.ok (.enter b (args.map a.eval)) l:=by
  cases x:c.body with
  |none=>simp[x]at D
  |some n=>simp[execOp,z,resolve,Act.eval,Deferred.ofValue,invoke,callFunc,C,E,x]
 unfold Oper.wp;rw[e];exact W.mono λq s r=>by
  grind
end
variable{b1:Int}
section
variable{o:Oper}{a:Act}
def valOf(b:Act)(c:Option Operand):Option Value:=c.map b.eval
theorem gk(h:bP u a j){b:Option Operand}(p:b.all aQ=η)(c:dc j b e=β b1):(b=ζ/\b1=e)\/∃d,valOf a b=β (.int d b1):=by
 cases b with
 |none=>left;simp only[dc,a7y]at c;simp_all
 |some b=>
  right;simp only[dc]at c;split at c
  .rename_i d r k;obtain rfl:=Δ c;have:=h.al b (by trivial);rw[k]at this;exact⟨d,by simp[valOf,this.dD]⟩
  .cases c
theorem Be(z:Bool)(d h:Nat)(k p:Option Operand)(c b:Int)(C:(k=ζ/\c=0)\/∃r,valOf a k=β (.int r c))(D:(p=ζ/\b=d)\/∃r,valOf a p=β (.int r b))
  (E:0<=c) (F:c<=b) (T:b<=d) (V:d<=h) (x:World):(Instr.sliceBounds z d h (valOf a k) (valOf a p) ζ).run m x=.ok (c.toNat,b.toNat,h) x:=by
 have W:(b.toNat)=b:=a8V δ;have G:b<=(h):=δ;have L:0<=b:=δ;have y:valOf a ζ=none:=rfl;rcases C with⟨rfl,rfl⟩|⟨e,P⟩<;>rcases D with⟨rfl,rfl⟩|⟨f,S⟩
 .rfl
 .simp only[Instr.sliceBounds,y,S];simp[run_sliceBound,G,L]
 .simp only[Instr.sliceBounds,y,P];simp[run_sliceBound,E,F]
 simp_all [Instr.sliceBounds,run_sliceBound]
theorem J4(k5:TypeId)(C:Operand)(D g:Option Operand)(n2:o.op=.slice k5 C D g ζ)(p:TypeId)(l0:m.underlying k5=β (.slice p))(E:Nat)(K:(m.info? p).map (·.size)=β E)(l1:aQ C=η)(M:D.all aQ=η)(N:g.all aQ=η)
  (P:bP u a j) (O:Holds u f l) (F:G ⟨m,t⟩ (.pk E C D g) j f Z):bV m t o a l u f Z:=by
 have r:=P.al C l1;have Q:∀(x)(len d:Nat)(c b:Int),((D=ζ/\c=0)\/∃X,valOf a D=β (.int X c))->((g=ζ/\b=len)\/∃X,valOf a g=β (.int X b))->0<=c->c<=b->b<=len->len<=d->
   a.eval C=.slice x len d->(execOp a.eval o).run m l=.ok (.value (sliced x c.toNat b.toNat d E)) l:=by
  intro x len d c b w S T V L k6 i;have l2:=Be (m:=m) η len d D g c b w S T V L k6 l;simp only[valOf]at l2;cases l3:m.info? p with
  |none=>simp[l3]at K
  |some ii=>simp_all [execOp,Instr.sliceAt,Instr.slice,run_underlying,sizeOf,typeInfo,sliced]
 simp only[G]at F;split at F
 .rename_i h k7 y;rw[y]at r;split at F
  case h_2=>trivial
  rename_i c b z W;obtain⟨T,V,L,n3,n⟩:=F;have w:=gk P M z;have S:=gk P N W;generalize i:a.eval C=A at r;have l4:∃x d,A=.slice x (α h) d/\α h<=d:=by
   cases r with
   |di x d=>simp
   |J Y B len d E j9 h k7 K k0 e=>grind
  obtain⟨x,d,k1,e⟩:=l4;have q:=Q x (α h) d c b (by trivial) S T V L e (by rw[i,k1]);refine .same O q ?_ n;have l5:aZ u (sliced x c.toNat b.toNat d E) (.J ((h.take b.toNat).drop c.toNat) .any):=by
   by_cases l6:c.toNat=b.toNat
   .have p:(h.take b.toNat).drop c.toNat=[]:=by rw[List.drop_eq_nil_iff];simp;omega
    rw[p,l6];unfold sliced;rw[a9J];refine .di _ _ _ (λl7=>?_) trivial;split at l7
    .omega
    .cases r with
     |di n4 k8 n5 bZ=>simp_all
     |J Y B len k8 k j9 h k7 K k0 e=>simp_all
   .have k9:h≠[]:=by rintro rfl;simp at L;omega
    obtain⟨Y,B,k8,k,j9,k2,l8,n9,k3,a00,l9,a01,_⟩:=r.wI k9;rw[k1]at k2;simp only[Value.slice.injEq]at k2;obtain⟨rfl,_,rfl⟩:=k2;obtain rfl:k=E:=by
     match h,k9 with
     |gO::h,_=>simp_all
    unfold sliced;rw[if_neg δ,a8u,hA];have n0:∀p∈(h.take b.toNat).drop c.toNat,α p.cells=k:=λp y=>k3 p (a7A (a7U y));have a02:flat ((h.take b.toNat).drop c.toNat)=((flat h).take (b.toNat*k)).drop (c.toNat*k):=by rw[(gh b.toNat k3).2,(gh c.toNat (λp y=>k3 p (a7A y))).1]
    have k0:((h.take b.toNat).drop c.toNat).length=b.toNat - c.toNat:=Μ;refine .J Y _ _ _ k (λH=>j9 (c.toNat*k+H)) _ .any l8 k0.symm δ n0 (λa03 k6=>?_) (λH a04=>?_) (λH a05 l0=>?_) trivial;grind
    .rw[aaE];refine l9 _ ?_;have:c.toNat*k+H<b.toNat*k:=by
      have p:b.toNat*k=c.toNat*k+(b.toNat - c.toNat)*k:=by rw[<-a8w];congr 1;omega
      omega
     exact a8z this (a7D _ δ)
    grind
  unfold wC;split
  .simp only[dc,a7y]at z W;subst z;subst W;have:(h.take ((α h:Int)).toNat).drop ((0:Nat):Int).toNat=h:=ς;rw[this];have n1:sliced x ((0:Nat):Int).toNat ((α h):Int).toNat d E=A:=by rw[k1];unfold sliced;simp_all [Addr.add]
   rw[n1];exact r
  .exact l5
 .rename_i s B v d k y;rw[y]at r;split at F
  case h_2=>trivial
  rename_i c b z W;obtain⟨rfl,T,V,L,k4,n⟩:=F;have w:=gk P M z;have S:=gk P N W;generalize i:a.eval C=A at r;cases r with
  |bE s B v d E I e=>have q:=Q _ v d c b (by trivial) S T V L e i;refine .same O q ?_ n;unfold sliced;rw[if_neg δ,a8u,hA];exact .bE _ _ _ _ _ I δ
 .rename_i s v d k y;rw[y]at r;split at F
  case h_2=>trivial
  rename_i c b z W;obtain⟨rfl,T,V,L,k4,n⟩:=F;have w:=gk P M z;have S:=gk P N W;generalize i:a.eval C=A at r;cases r with
  |aq s v d k I e=>
   have q:=Q _ v d c b (by trivial) S T V L e i;refine .same O q ?_ n;cases D with
   |none=>
    simp only[dc,a7y]at z;subst z;simp only[a9a,qF,a8o,if_false];have:sliced (β ⟨s,0,ζ⟩) ((0:Nat):Int).toNat b.toNat d k=.slice (β ⟨s,0,ζ⟩) b.toNat d:=by unfold sliced;simp[Addr.add]
    rw[this];exact .aq _ _ _ _ I δ
   |some D=>simp only[a9K,qF,if_true];have k4:=k4 rfl;unfold sliced;rw[if_neg δ,a8u,hA,a7Q];exact .bE _ _ _ _ _ I δ
 .trivial
theorem wK(z:0<e)(h:i*e<=α g)(C:∀k∈g,k.one=η):(∀b∈eB e i g,α b.cells=e)/\flat (eB e i g)=g.take (i*e)/\(eB e i g).length=i:=by
 unfold eB;split
 .rename_i p;subst p;rw[a8g]at h|-;have D:∀b:R,b.one=η->b.cells=[b]:=λb d=>by cases b<;>first|rfl|(simp[R.one]at d)
  refine⟨λb d=>by grind,?_,Μ⟩;have:∀c:ύ,(∀b∈c,b.one=η)->flat c=c:=by
   intro c
   induction c with
   |nil=>intro _;rfl
   |cons E c ih=>grind[flat,List.mem_cons_self,List.mem_cons_of_mem]
  grind
 .refine⟨λb d=>?_,?_,ς⟩
  .obtain⟨r,x,rfl⟩:=a7G.1 d;have y:=a8C.1 x;have:(r+1)*e<=i*e:=a7D _ y;grind[R.cells,List.length_take,List.length_drop,Nat.add_mul]
  .clear h
   induction i with
   |zero=>simp[flat]
   |succ i ih=>rw[ab3,a8l];simp only[flat,a8f,a7C,a8K,a7P,aa4,a8t,R.cells]at ih|-;rw[ih,a8w,aa9,List.take_add]
theorem Bf(b:f e=β (.ro g)):f.set e (.ro g)=f:=by grind[U.ai,U.an]
def Step.J5(d:Holds u f l)(b:f.read e=β g):∃k,Step u f l k (f.set e (.ro g)) l:=by
 unfold U.read at b;split at b
 .rename_i h c;obtain rfl:=Δ b;exact Step.freeze d c
 .rename_i h c;obtain rfl:=Δ b;rw[Bf c];exact⟨u,.refl d⟩
 .rename_i T h c;obtain rfl:=Δ b;exact Step.wA d (.inr (.inl ⟨T,c⟩))
 .rename_i h c;obtain rfl:=Δ b;exact Step.wA d (.inr (.inr c))
 .cases b
theorem Bg(V:TypeId)(x:Operand)(y z:Option Operand)(k9:o.op=.slice V x y z ζ)(h:Nat)(r:TypeId)(p:m.underlying V=β (.array h r))(b:Nat)(w:(m.info? r).map (·.size)=β b)(F:0<b)(W:Bool)(A:aQ x=η)(B:y.all aQ=η)
  (H:z.all aQ=η) (L:bP u a j) (P:Holds u f l) (c:G ⟨m,t⟩ (.kp b h x y z W) j f Z):bV m t o a l u f Z:=by
 have e:=L.al x A;simp only[G]at c;split at c
 case h_2=>trivial
 rename_i C D I;rw[I]at e;split at c
 case h_2=>trivial
 rename_i d k K M;obtain⟨N,O,Q,c⟩:=c;split at c
 case h_2=>trivial
 rename_i X g;obtain⟨l0,c⟩:=c;have l1:=e.jN;have Y:=Be (m:=m) ι h h y z d k (by simpa using gk L B K) (gk L H M) N O Q (a7T _) l;simp only[valOf]at Y;obtain⟨j9,l2,T,l3,l4,l5⟩:=P.read g;have i:(execOp a.eval o).run m l=.ok (.value (.slice (β (if h=d.toNat then⟨C,D,ζ⟩else⟨C,D+d.toNat*b,ζ⟩)) (k.toNat - d.toNat) (h - d.toNat))) l:=by
  cases k0:m.info? r with
  |none=>simp[k0]at w
  |some ii=>simp_all [execOp,Instr.sliceAt,run_underlying,Instr.sureAddr,sizeOf,typeInfo,hA]
 cases W with
 |true=>
  simp only[if_true]at c;obtain⟨l6,n⟩:=Step.J5 P g;refine .value i n ?_ c;obtain⟨_,k1,l7,_,l8,q,k2⟩:=n.holds.cT C _ (U.ai _ _ _);have l9:k.toNat*b<=h*b:=a7D _ δ;have n0:(k.toNat - d.toNat)*b+d.toNat*b=k.toNat*b:=by rw[<-a8w];congr 1;omega
  have k3:∀E∈X.drop (D+d.toNat*b),E.one=true:=λE s=>j9 E (a7U s);obtain⟨k4,k5,v⟩:=wK (i:=k.toNat - d.toNat) F Μ k3;by_cases k6:d.toNat=k.toNat
  .have r:=a7t (by rw[v];omega);rw[r,k6,a9J];exact .di _ _ _ (λk7=>by simp at k7) trivial
  .rw[if_neg δ];refine .J C _ _ _ b (λS=>k1.getD (D+d.toNat*b+S) undef) _ .any F v.symm δ k4 (λE s=>?_) (λS n1=>?_) (λS k8 p=>?_) trivial;grind
   .refine k2 _ ?_;have:=q.1;omega
   .rw[k5,List.getElem?_take]at p;split at p
    .rw[aaf]at p;exact q.2 _ k8 p
    .cases p
 |false=>simp only[a8o,if_false]at c;refine .same P i ?_ c.2;rw[if_neg δ];exact .bE _ _ _ _ _ F δ
theorem Bh(h:List Value):∀(b c:Nat)(d:Array Value),c+b+α h<=d.size->
  (h.zipIdx b).foldl (λ(r:Array Value) (k:Value×Nat)=>r.setIfInBounds (c+k.2) k.1) d=df d (c+b) h:=by
 induction h with
 |nil=>intro b c d p;apply abk;simp[df]
 |cons y h ih=>
  intro b c d p;simp only[a7s]at p;rw[List.zipIdx_cons,a7S,ih (b+1) c _ Μ];apply abk;simp only[df,Array.toList_setIfInBounds,a7s];have x:c+b<α d.toList:=Μ;rw[a8F,if_pos x];have z:(d.toList.take (c+b)).length=c+b:=by simp only[a7q];omega
  rw[show c+(b+1)=(d.toList.take (c+b)).length+1 by omega,aa1];rw[show(d.toList.take (c+b)).length+1+α h=(d.toList.take (c+b)).length+(α h+1) by omega,aa2];grind[List.append_assoc,List.drop_drop]
theorem Bi(F:Nat->Option (Nat×Nat))(C:bn):∀(r:List (Nat×Operand))(res:List (Nat×Nat×Operand))(b:Array Value)(c:ύ)(x:ύ->Prop),
  α r=α res->(∀(p:Nat)(d:Nat×Operand)(h:Nat×Nat×Operand),r[p]?=β d->res[p]?=β h->F d.1=β (h.1,h.2.1)/\d.2=h.2.2/\aQ d.2=η/\0<h.2.1)->bP C a j->bx C b c->(∀y∈c,y.one=η)->kx j c res x->
  ∃D z,Instr.fill F b (r.map λd=>(d.1,a.eval d.2))=β D/\bx C D z/\(∀y∈z,y.one=η)/\x z
 |[],[],b,c,x,_,_,_,E,G,L=>⟨b,c,rfl,E,G,L⟩
 |(t,k)::r,(off,cf,u)::res,b,c,x,f,P,S,E,G,L=>by
  obtain⟨T,V,W,g⟩:=P 0 _ _ rfl rfl;simp only at T V W g;subst V;obtain⟨i,v,l⟩:=L;obtain⟨e,c2⟩:=(S.al k W).cells δ;have w:(a.eval k).cells.size=cf:=by rw[e.1,i]
  obtain⟨D,z,m,n,q,s⟩:=Bi F C r res (df b off (a.eval k).cells.toList) (putAt c off (al j k).cells) x (by simpa using f) (λp d h A B=>P (p+1) d h (by trivial) (by trivial)) S
   (E.putAt e off δ) (u1 G c2 off) l
  refine⟨D,z,?_,n,q,s⟩;simp only[a7C,Instr.fill,T];have H:off+(a.eval k).cells.size<=b.size:=by have:=E.1;omega
  rw[if_neg Μ];rw[show(a.eval k).cells.zipIdx.foldl (λc (y,p)=>c.setIfInBounds (off+p) y) b=df b off (a.eval k).cells.toList by
   rw[<-Array.foldl_toList,abr];simp_all [Bh]]
  exact m
def J6(k:TypeId)(c:Array (Nat×Operand))(D:o.op=.build k c)(x:Nat->Option (Nat×Nat))(b:Array Value)(p:List (Nat×Nat×Operand))
  (E:∀y:List (Nat×Value),m.built k y=Instr.fill x b y) (F:∀d∈b.toList,d.oneCell'=η) (L:α c.toList=α p)
  (P:∀(z:Nat)(r:Nat×Operand)(h:Nat×Nat×Operand),c.toList[z]?=β r->p[z]?=β h->x r.1=β (h.1,h.2.1)/\r.2=h.2.2/\aQ r.2=η/\0<h.2.1)
  (S:bP u a j) (T:Holds u f l) (V:G ⟨m,t⟩ (.mb (b.toList.map cv) p) j f Z):bV m t o a l u f Z:=by
 obtain⟨W,w,e,C,g,i⟩:=Bi x u c.toList p b (b.toList.map cv) (λn=>Z (.agg n) f) L P S (bx.ph u b F) (λA q=>by obtain⟨d,_,rfl⟩:=a7G.1 q;exact o5 d) V;have s:m.built k (c.map λ(v,d)=>(v,a.eval d)).toList=β W:=by rw[E,a9P];exact e
 exact .same T (by simp only[execOp,D,Sem.run_bind,run_build l k _ _ s];rfl) (.agg _ _ g C.1 C.2) i
theorem wL{b:Nat}(T:0<b):∀(p:List Operand)(c:Nat)(k:Array Value)(d:ύ),(∀h∈p,aQ h=η)->bP u a j->bx u k d->(∀r∈d,r.one=η)->(∀C∈p.map (al j),α C.cells=b)->α d=(c+α p)*b->
  ∃y x,Instr.fill (λc=>β (c*b,b)) k ((p.zipIdx c).map λE=>(E.2,a.eval E.1))=β y/\bx u y x/\(∀r∈x,r.one=η)/\x=d.take (c*b)++flat (p.map (al j))
 |[],c,k,d,_,_,z,D,_,hlen=>⟨k,d,rfl,z,D,by simp[flat];grind⟩
 |h::p,c,k,d,F,G,z,D,L,hlen=>by
  have V:(al j h).cells.length=b:=L _ ς;obtain⟨P,c2⟩:=(G.al h (F h ς)).cells δ;have n:(a.eval h).cells.size=b:=by rw[P.1,V]
  simp only[a7s]at hlen;have q:c*b+b<=α d:=by grind
  obtain⟨y,x,W,e,f,g⟩:=wL T p (c+1) (df k (c*b) (a.eval h).cells.toList) (putAt d (c*b) (al j h).cells) (λi l=>F i (by simp[l])) G (z.putAt P _ δ) (u1 D c2 _)
   (λC S=>L C (by simp at S|-;exact .inr S)) (by grind[eO])
  refine⟨y,x,?_,e,f,?_⟩
  .simp only[List.zipIdx_cons,a7C,Instr.fill];have s:c*b+(a.eval h).cells.size<=k.size:=by have:=z.1;omega
   rw[if_neg Μ];rw[show(a.eval h).cells.zipIdx.foldl (λd (r,m)=>d.setIfInBounds (c*b+m) r) k=df k (c*b) (a.eval h).cells.toList by
    rw[<-Array.foldl_toList,abr];simp_all [Bh]]
   exact W
  .rw[g];simp only[putAt,flat,a7C,a7P];have t:(d.take (c*b)++(al j h).cells).length=(c+1)*b:=by rw[a8w];simp;omega
   grind
def Bj(C:TypeId)(c:Nat)(D:Array (Nat×Value))(h:TypeId)(G:m.underlying C=β (.slice h))(b:TypeInfo)(E:m.info? h=β b)(r:Value)(L:b.zero=β r)(V:c*b.size<=2^24)(x:Array Value)(p:x=if c*b.size=0 then #[]else r.cells)
  (F:Array Value) (y:Instr.fill (λz=>β (z*b.size,b.size)) ((Array.range (c*b.size)).map (λz=>x[z%x.size]!)) D.toList=β F) (d:World):
  (Instr.buildSlice C c D).run m d=.ok (.slice (β ⟨d.heap.size,0,ζ⟩) c c) (d.alloc (.cells F h)):=by
 have P:¬(c*b.size>2^24):=δ;have S:(sizeOf h).run m d=.ok b.size d:=by simp[sizeOf,typeInfo,E]
 have T:(zeroValue h).run m d=.ok r d:=by simp[zeroValue,typeInfo,E,L]
 unfold Instr.buildSlice;simp only[Sem.run_bind,run_underlying G,Result.andThen_ok,S];rw[if_neg P];by_cases k:c*b.size=0
 .rw[if_pos k]at p;subst p;simp only[k,if_true];rw[k]at y;rw[Sem.run_bind];simp only[Sem.run_pure,Result.andThen_ok,y];rfl
 .rw[if_neg k]at p;subst p;simp only[k,if_false];rw[Sem.run_bind];simp only[T,Result.andThen_ok];rw[Sem.run_bind];simp only[Sem.run_pure,Result.andThen_ok,y];rfl
theorem Bk(g:TypeId)(c:Nat)(S:Array (Nat×Operand))(r:o.op=.buildSlice g c S)(x:TypeId)(i:m.underlying g=β (.slice x))(b:TypeInfo)(M:m.info? x=β b)(D:Value)(N:b.zero=β D)(k7:D.cells.size=b.size)(k8:∀d∈D.cells.toList,d.oneCell'=η)
  (T:0<b.size) (O:c*b.size<=2^24) (k:List Operand) (k9:S.toList=(k.zipIdx 0).map λF=>(F.2,F.1)) (E:α k=c) (Q:∀d∈k,aQ d=η)
  (X:bP u a j) (z:Holds u f l) (C:G ⟨m,t⟩ (.ko b.size k) j f Z):bV m t o a l u f Z:=by
 simp only[G]at C;obtain⟨n,C⟩:=C
 let fB:Array Value:=if c*b.size=0 then #[]else D.cells
 let y:Array Value:=(Array.range (c*b.size)).map (λh=>fB[h%fB.size]!);have Y:∀d∈y.toList,d.oneCell'=true:=by
  intro d q;by_cases L:c*b.size=0
  .simp[y,L]at q
  .have l0:fB=D.cells:=if_neg L;simp only[y,a9P,a7G]at q;obtain⟨h,_,rfl⟩:=q;grind[Nat.mod_lt]
 have j9:y.size=c*b.size:=by simp[y]
 obtain⟨p,l1,k0,B,k1,V⟩:=wL T k 0 y (y.toList.map cv) Q X (bx.ph u y Y) (λH s=>by obtain⟨d,_,rfl⟩:=a7G.1 s;exact o5 d) n (by simp[j9,E]);simp only[aau,a9m,a7H]at V;have k2:(S.map λ(h,d)=>(h,a.eval d)).toList=(k.zipIdx 0).map λF=>(F.2,a.eval F.1):=by simp_all
 have I:(execOp a.eval o).run m l=.ok (.value (.slice (β ⟨l.heap.size,0,ζ⟩) c c)) (l.alloc (.cells p x)):=by have:=Bj g c (S.map λ(h,d)=>(h,a.eval d)) x i b M D N O fB rfl p (by rw[k2];exact k0) l;simp only[execOp,r,Sem.run_bind,this];rfl
 by_cases L:α k=0
 .rw[if_pos L]at C;have k3:c=0:=δ;subst k3;refine .value I (b:=u.ext l.heap.size 0 p) ?_ (.di _ _ .zero (λl2=>by rfl) rfl) C;have W:=Step.write (h9:=l.alloc (.cells p x)) z l.heap.size 0 p x f rfl rfl rfl ς (heap_alloc_new l _) (λw _ A=>qu l _ w A) (.inl rfl)
   (a7N _) (λo v P=>by rw[z.mQ]at P;cases P) (λk4 o K e=>e)
   (λo r=>by rw[z.ek]at r;cases r)
  exact W
 .rw[if_neg L]at C;have k5:p.size=c*b.size:=by rw[B.1,V,cU n];simp[E]
  have W:=Step.write (h9:=l.alloc (.cells p x)) z l.heap.size (c*b.size) p x (f.set l.heap.size (.buf b.size (α k) (α k))) rfl rfl rfl ς (heap_alloc_new l _) (λw _ A=>qu l _ w A) (.inl rfl)
   δ (λo v P=>by rw[z.mQ]at P;cases P) (λk4 o K e=>by rw[U.an _ _ K]at e;exact e)
   (λo r=>by
    rw[U.ai]at r;obtain rfl:=Δ r;refine⟨T,a7T _,?_,p,x,heap_alloc_new l _,by rw[k5,E],λo r=>?_⟩
    .have:α k*1<=c*b.size:=by rw[E];exact abt _ T
     unfold maxLen;omega
    .rw[bn.pg _ _ _ _ (by rw[E]at r;omega)];exact z.mQ o)
  refine .value I W ?_ (C _ z.ek);refine .J _ _ _ _ b.size (λh=>p.getD h undef) _ _ T (by simp[E]) δ n (λH s=>k1 H (by rw[V];exact s)) (λh l3=>?_) (λh k6 i=>?_) ⟨rfl,rfl,δ⟩;simp_all [bn.pf]
  .exact((B.2 h k6 (by rw[V];exact i))).mono W.le
theorem J7(E:TypeId)(d:Nat)(z:Array (Nat×Operand))(V:o.op=.buildSlice E d z)(r:TypeId)(W:m.underlying E=β (.slice r))(b:TypeInfo)(e:m.info? r=β b)(p:Value)(g:b.zero=β p)(w:p.cells.size=b.size)(A:∀c∈p.cells.toList,c.oneCell'=η)
  (F:0<b.size) (i:d*b.size<=2^24) (h:List Operand) (B:z.toList=(h.zipIdx 0).map λC=>(C.2,C.1)) (L:α h=d) (n:∀c∈h,aQ c=η)
  (q:bP u a j) (P:Holds u f l) (x:G ⟨m,t⟩ (.ks b.size h) j f Z):bV m t o a l u f Z:=by
 simp only[G]at x;obtain⟨H,x⟩:=x;by_cases D:α h=0
 .rw[if_pos D]at x;refine Bk E d z V r W b e p g w A F i h B L n q P ?_;simp_all [G]
 rw[if_neg D]at x
 let fB:Array Value:=if d*b.size=0 then #[]else p.cells
 let k:Array Value:=(Array.range (d*b.size)).map (λy=>fB[y%fB.size]!);have I:∀c∈k.toList,c.oneCell'=true:=by
  intro c S;by_cases D:d*b.size=0
  .simp[k,D]at S
  .have Y:fB=p.cells:=if_neg D;simp only[k,a9P,a7G]at S;obtain⟨y,_,rfl⟩:=S;grind[Nat.mod_lt]
 have K:k.size=d*b.size:=by simp[k]
 obtain⟨T,j9,M,N,k0,s⟩:=wL F h 0 k (k.toList.map cv) n q (bx.ph u k I) (λO v=>by obtain⟨c,_,rfl⟩:=a7G.1 v;exact o5 c) H (by simp[K,L]);simp only[aau,a9m,a7H]at s;have Q:(z.map λ(y,c)=>(y,a.eval c)).toList=(h.zipIdx 0).map λC=>(C.2,a.eval C.1):=by simp_all
 have X:(execOp a.eval o).run m l=.ok (.value (.slice (β ⟨l.heap.size,0,ζ⟩) d d)) (l.alloc (.cells T r)):=by have:=Bj E d (z.map λ(y,c)=>(y,a.eval c)) r W b e p g i fB rfl T (by rw[Q];exact M) l;simp only[execOp,V,Sem.run_bind,this];rfl
 subst L;refine .value X (Step.new P T r _ (λO v=>?_) ?_) (.aq _ _ _ _ F (a7T _)) (x _ P.ek)
 .simp_all
 .rw[<-s];exact N
end
section
variable{o:Oper}{a:Act}
theorem aZ.src(T:aZ u e5 (.J g N))(V:Holds u f l)(D:∀W∈g,α W.cells=e)(E:Program):
  ∃x:List Value,Src E l e (α g) e5 x/\α x=(flat g).length/\(∀b c,(flat g)[b]?=β c->aZ u (x.getD b Go.undef) c)/\(∀y∈flat g,y.one=η):=by
 cases T with
 |di d cap N bZ i=>
  refine⟨[],⟨rfl,?_,?_,ς⟩,rfl,λb c F=>by trivial,λy p=>by trivial⟩
  .cases d<;>simp[Builtin.firstCells,loadCells,loadCellsFrom]
  .cases d<;>simp[Builtin.firstCells,loadCells,loadCellsFrom]
 |J G off len cap h z xs N hk C s j m hH t i=>
  subst C;cases r:g with
  |nil=>subst r;refine⟨[],⟨rfl,?_,?_,ς⟩,rfl,λb c F=>by trivial,λy p=>by trivial⟩<;>simp[Builtin.firstCells,loadCells,loadCellsFrom]
  |cons L w=>
   rw[<-r];have n:=(j L (by simp[r])).symm.trans (D L (by simp[r]));subst n;have C:=cU D;have p:∀(k),(∀d,k.cell? d=l.cell? d)->(Builtin.firstCells h (α g) (.slice (β ⟨G,off,ζ⟩) (α g) cap)).run E k=.ok ((ω (α g*h)).map z).toArray k:=λk q=>by
    refine run_firstCells_some k h (α g) ⟨G,off,ζ⟩ (α g) cap _ ς (λb v P=>?_);have S:b<α g*h:=by grind
    rw[a7R,a9E S]at P;obtain rfl:z b=v:=by simpa using P
    rw[q,hA];exact V.ro _ _ _ (hH b S)
   refine⟨(ω (α g*h)).map z,⟨rfl,p l (λ_=>rfl),p l.drew (λ_=>rfl),ς⟩,by simp[C],λb c F=>?_,m⟩;grind
theorem pt(b c:ύ):flat (b++c)=flat b++flat c:=by simp[flat]
def jg(b c:Operand)(d h:TypeId)(k:o.op=.call {callee:=.builtin .append,args:=#[b,c],argTypes:=#[d,h]}){v:Value}
  (p:(Builtin.append_ #[d,h] o.type #[a.eval b,a.eval c]).run m l=.ok v h9):(execOp a.eval o).run m l=.ok (.value v) h9:=by
 simp[execOp,k,resolve,invoke,builtin,p]
theorem J8(n S:Operand)(r:TypeId)(p:o.op=.call {callee:=.builtin .append,args:=#[n,S],argTypes:=#[r,r]})(k:TypeId)(x:m.underlying r=β (.slice k))(b:TypeInfo)(O:m.info? k=β b)(H:Value)(l3:b.zero=β H)
  (a14:H.cells.size=b.size) (Q:0<b.size) (a15:aQ n=η) (a16:aQ S=η) (n9:bP u a j) (V:Holds u f l) (y:G ⟨m,t⟩ (.app b.size b.bytes n S) j f Z):bV m t o a l u f Z:=by
 have g:=n9.al n a15;have a00:=n9.al S a16;simp only[G]at y;split at y
 case h_2=>trivial
 rename_i d I h a62 K a18;rw[K]at g;rw[a18]at a00;obtain⟨a01,l4,a19,k8,y⟩:=y;obtain⟨z,q,a63,a27,a29⟩:=a00.src V l4 m;have a30:∀F∈z,F.oneCell'=true:=λF x=>by
  obtain⟨c,L⟩:=aa3 x;have a02:c<(flat h).length:=by grind
  have:=a27 c _ (Ρ a02);rw[a8n,L]at this;exact this.o3 (a29 _ (a7O a02))
 have l5:=q.size;generalize X:a.eval n=a03 at g;have newRow:∀(k0:List Value)(W C:Nat)(s:ύ),α s=W->α k0=W*b.size->(∀k∈s,α k.cells=b.size)->(∀c F,(flat s)[c]?=β F->aZ u (k0.getD c undef) F)->(∀E∈flat s,E.one=η)->
   W+α h<=C->C<=maxLen->∀k9:U,k9.sub f->
   let i:=k0.toArray++z.toArray++Builtin.zeroCells H.cells (C -(W+α h))
   ∃k1,Step u f l k1 (k9.set l.heap.size (.buf b.size (W+α h) C)) (l.drew.alloc (.cells i k))/\aZ k1 (.slice (β ⟨l.heap.size,0,ζ⟩) (W+α h) C) (.J (s++h) (.buf l.heap.size C)):=by
  intro k0 W C s l6 k2 a04 a65 a05 Y a34 k9 a36 i;have l7:i.size=C*b.size:=by simp only[i,Array.size_append,List.size_toArray,size_zeroCells,a14,k2,l5,<-a8w];congr 1;omega
  have l0:i.toList=k0++z++(Builtin.zeroCells H.cells (C -(W+α h))).toList:=by simp[i]
  have l1:(flat (s++h)).length=(W+α h)*b.size:=by rw[cU (d:=b.size)];(simp[l6]);grind
  have a38:∀c F,(flat (s++h))[c]?=β F->aZ u (i.getD c undef) F:=λc F x=>by
   rw[pt]at x;have a06:(flat s).length=W*b.size:=by rw[cU a04,l6]
   rw[a8k,<-a8X,l0];grind
  have a68:(W+α h)*b.size<=C*b.size:=a7D _ Y;have a42:=V.drew;have e:=Step.write (h9:=l.drew.alloc (.cells i k)) a42 l.heap.size ((W+α h)*b.size) i k (k9.set l.heap.size (.buf b.size (W+α h) C)) rfl rfl rfl ς (heap_alloc_new l.drew _) (λj9 _ l8=>qu l.drew _ j9 l8) (.inl rfl)
   δ (λo v g=>by rw[V.mQ]at g;cases g) (λl9 o k3 k4=>by rw[U.an _ _ k3]at k4;exact a36 l9 o k4)
   (λo p=>by
    rw[U.ai]at p;obtain rfl:=Δ p;refine⟨Q,Y,a34,i,k,heap_alloc_new l.drew _,l7,λo p=>?_⟩;rw[bn.pg _ _ _ _ δ];exact V.mQ o)
  refine⟨_,(Step.drew V).trans e,?_⟩;refine .J _ _ _ _ b.size (λc=>i.getD c undef) _ _ Q (by simp[l6]) Y (λk K=>by grind) (λE n0=>by
   grind[pt]) (λc L=>?_) (λc F x=>(a38 c F x).mono e.le) ⟨rfl,rfl,rfl⟩
  rw[a7Q,bn.pf _ _ _ _ L];simp[show c<i.size by omega]
 cases I with
 |any=>trivial
 |nil=>
  obtain⟨rfl,y⟩:=y;have n1:a03=.slice ζ 0 0:=by
   cases g with
   |di w C I bZ p=>simp only[Own.lY]at p;subst p;rw[bZ rfl]
   |J j9 off len C n2 A d I Q l1 Y l4 a43 hH a07 p=>trivial
  subst n1;by_cases M:h=[]
  .subst M;rw[if_pos rfl]at y;have a08:=a7t (by trivial);refine .same V (jg n S r r p ?_) (.di _ _ .nil (λ_=>rfl) rfl) y;rw[X];have k5:=q.len;have k6:=q.cells;simp only[a7x]at k5 k6;simp[Builtin.append_,run_underlying x,sizeOf,typeInfo,O,k5,k6]
  .rw[if_neg M]at y;have a47:=a8q.2 M;have B:=qw l r r o.type k b H x _ x (.inl ⟨k,rfl⟩) O l3 ζ 0 0 [] ς abH (α h) (a.eval S) z q δ (by simp only[a7x]at k8;omega) (by trivial);simp only[a7Q]at B;have n3:=grownCap_ge l (α h) 0 k;have k7:=grownCap_le_maxLen l (α h) 0 k (by unfold maxLen;simp only[a7x]at k8;omega);obtain⟨k1,e,N⟩:=newRow [] 0 (grownCap l (α h) 0 k) [] rfl ς (λk K=>by simp at K) (λc F x=>by trivial) (λE n0=>by trivial) δ k7 f (λ_ _ n4=>n4);simp only[a7Q,a7H]at e N;refine .value (jg n S r r p (by rw[X];exact B)) e N (y _ _ V.ek)
 |zero=>
  obtain⟨rfl,y⟩:=y;have n1:∃w,a03=.slice w 0 0:=by
   cases g with
   |di w C I bZ p=>simp only[Own.lY]at p;subst p;simp
   |J j9 off len C n2 A d I Q l1 Y l4 a43 hH a07 p=>trivial
  obtain⟨w,rfl⟩:=n1;by_cases M:h=[]
  .subst M;rw[if_pos rfl]at y;have a08:=a7t (by trivial);refine .same V (jg n S r r p (v:=.slice w 0 0) ?_) (.di _ _ .zero (λ_=>rfl) rfl) y;rw[X];have k5:=q.len;have k6:=q.cells;simp only[a7x]at k5 k6;subst a08;cases w<;>simp[Builtin.append_,run_underlying x,sizeOf,typeInfo,O,k5,k6,storeCells]
  .rw[if_neg M]at y;have a47:=a8q.2 M;have B:=qw l r r o.type k b H x _ x (.inl ⟨k,rfl⟩) O l3 w 0 0 [] ς (by cases w<;>simp[Builtin.firstCells,loadCells,loadCellsFrom]) (α h) (a.eval S) z q δ (by simp only[a7x]at k8;omega) (by trivial);simp only[a7Q]at B;have n3:=grownCap_ge l (α h) 0 k;have k7:=grownCap_le_maxLen l (α h) 0 k (by unfold maxLen;simp only[a7x]at k8;omega);obtain⟨k1,e,N⟩:=newRow [] 0 (grownCap l (α h) 0 k) [] rfl ς (λk K=>by simp at K) (λc F x=>by trivial) (λE n0=>by trivial) δ k7 f (λ_ _ n4=>n4);simp only[a7Q,a7H]at e N;refine .value (jg n S r r p (by rw[X];exact B)) e N (y _ _ V.ek)
 |buf P E=>
  obtain⟨a09,y⟩:=y;obtain⟨_,a69,a48,D,T,n5,a10,a71⟩:=V.cT P _ a09;cases g with
  |di w C I bZ p=>trivial
  |J j9 off len C n2 A d I a73 l1 Y a04 a05 hH a07 p=>
   obtain⟨rfl,rfl,rfl⟩:=p;subst l1;have a74:α d*n2=α d*b.size:=by
    cases a81:d with
    |nil=>simp
    |cons gO a83=>simp_all
   have a11:∀c,c<α d*b.size->u P c=β (A c):=λc L=>by
    simp_all
   have a52:∀c,c<α d*b.size->D[c]?=β (A c):=λc L=>by
    have:=V.ro _ _ _ (a11 c L);grind[cell_of_row]
   have a84:α d*b.size<=D.size:=by rw[a10];grind
   by_cases l2:α d+α h<=E
   .
    have a13:α d*b.size+α z<=D.size:=by rw[l5,a10,<-a8w];exact a7D _ l2
    have B:=B6 l r r o.type k b x _ x (.inl ⟨k,rfl⟩) O P (α d) E D T _ n5 (wB _) (α h) (a.eval S) z q a30 l2 a13;have l7:(df D (α d*b.size) z).size=D.size:=by simp[df];omega
    have l0:(df D (α d*b.size) z).toList=D.toList.take (α d*b.size)++z++D.toList.drop (α d*b.size+α z):=by rfl
    have a86:∀c,c<α d*b.size->(df D (α d*b.size) z)[c]?=β (A c):=λc L=>by
     rw[<-a8X,l0,a7B,a9i Μ,a8s L,a8X];exact a52 c L
    have a06:=cU a01;have e:=Step.write (h9:=l.setRow P (df D (α d*b.size) z)) V P ((α d+α h)*b.size) (df D (α d*b.size) z) T ((f.del P).set P (.buf b.size (α d+α h) E)) rfl rfl rfl ς (setRow_heap l P D _ T _ n5)
     (λj9 _ l8=>setRow_other l P j9 _ l8) (.inr (by simp[a09])) (by rw[l7,a8w,<-l5];exact a13)
     (λo v g=>by
      grind)
     (λl9 o k3 k4=>by rw[U.an _ _ k3,U.eN _ k3]at k4;exact k4)
     (λo p=>by
      rw[U.ai]at p;obtain rfl:=Δ p;refine⟨Q,l2,a48,_,T,setRow_heap l P D _ T _ n5,δ,λo p=>?_⟩;grind[bn.pg,Nat.le_trans,Nat.mul_le_mul_right])
    refine .value (jg n S r r p (by rw[X];exact B)) e ?_ (y P E (.inl rfl));refine .J _ _ _ _ b.size (λc=>(df D (α d*b.size) z).getD c undef) _ _ Q ς l2 (λk K=>by grind) (λE n0=>by
     grind[pt]) (λc L=>?_) (λc F x=>?_) ⟨rfl,rfl,rfl⟩
    .rw[a7Q,bn.pf _ _ _ _ L];have:c<(df D (α d*b.size) z).size:=by grind
     simp[this]
    .refine aZ.mono e.le ?_;rw[pt]at x;by_cases L:c<α d*b.size
     .rw[a9i δ]at x;simp_all
     .rw[aa6 δ,a06]at x;have a56:c - α d*b.size<α z:=by grind
      have a57:(D.toList.take (α d*b.size)).length=α d*b.size:=Μ;rw[a8k,<-a8X,l0,a7B,aa6 δ,a57,a9i a56];grind
   .
    have k2:((ω (α d*b.size)).map A).length=α d*b.size:=ς;have a61:(Builtin.firstCells b.size (α d) (.slice (β ⟨P,0,ζ⟩) (α d) E)).run m l.drew=.ok ((ω (α d*b.size)).map A).toArray l.drew:=by
     refine run_firstCells_some l.drew b.size (α d) ⟨P,0,ζ⟩ (α d) E _ k2 (λc v g=>?_);have L:c<α d*b.size:=by grind
     rw[a7R,a9E L]at g;obtain rfl:A c=v:=by simpa using g
     rw[hA,a7Q];exact V.ro _ _ _ (a11 c L)
    have B:=qw l r r o.type k b H x _ x (.inl ⟨k,rfl⟩) O l3 (β ⟨P,0,ζ⟩) (α d) E _ k2 a61 (α h) (a.eval S) z q δ δ a19;have n3:=grownCap_ge l (α d+α h) E k;have k7:=grownCap_le_maxLen l (α d+α h) E k (by unfold maxLen;omega);obtain⟨k1,e,N⟩:=newRow ((ω (α d*b.size)).map A) (α d) (grownCap l (α d+α h) E k) d rfl k2 a01 (λc F x=>by
      grind[cU,Ζ,List.getD]) a05 n3 k7 (f.del P) (λl9 o k3=>by
      grind[U.iH,U.eN])
    exact .value (jg n S r r p (by rw[X];exact B)) e N (y _ _ (.inr V.ek))
theorem wM(G:aZ u e5 n)(S:Holds u f l)(b:bW f e n=β (i,g))(D:Program):
  ∃p:List Value,Src D l e i e5 p/\α p=α g/\(∀k r,g[k]?=β r->aZ u (p.getD k Go.undef) r)/\(∀z∈g,z.one=η):=by
 have q:∀(y d c x)(h),f.read y=β h->d+c*e<=α h->
   ∃p:List Value,Src D l e c (.slice (β ⟨y,d,ζ⟩) c x) p/\α p=((h.drop d).take (c*e)).length/\(∀k r,((h.drop d).take (c*e))[k]?=β r->aZ u (p.getD k Go.undef) r)/\(∀z∈(h.drop d).take (c*e),z.one=η):=by
  intro y d c x h E L;obtain⟨s,P,T,A,B,V⟩:=S.read E;have H:=V.1;have t:((P.toList.drop d).take (c*e)).length=c*e:=Μ;have W:∀(F),(∀j,F.cell? j=l.cell? j)->(Builtin.firstCells e c (.slice (β ⟨y,d,ζ⟩) c x)).run D F=.ok ((P.toList.drop d).take (c*e)).toArray F:=λF I=>by
   grind[run_firstCells_some,Ζ,hA,cell_of_row,List.getElem?_take_of_lt]
  refine⟨(P.toList.drop d).take (c*e),⟨rfl,W l (λ_=>rfl),W l.drew (λ_=>rfl),t⟩,Μ,λk r m=>?_,λz C=>s z (a7U (a7A C))⟩;have v:k<c*e:=by grind
  rw[a8s v,aaf]at m;have:=V.2 (d+k) r m;grind[Ζ,List.getElem?_take_of_lt,Array.getD_eq_getD_getElem?]
 unfold bW at b;split at b
 .rename_i K M;split at b
  case isFalse=>cases b
  rename_i N;simp only[a7y,a8x]at b;obtain⟨rfl,rfl⟩:=b;exact G.src S (by simp_all) D
 .split at b
  case h_2=>cases b
  rename_i h E;split at b
  case isFalse=>cases b
  rename_i C;simp only[a7y,a8x]at b;obtain⟨rfl,rfl⟩:=b;obtain⟨rfl,L⟩:=C;cases G with
  |aq y c x e hk w=>have O:=λx=>q _ 0 _ x h E (by rw[a7Q];exact L);simp_all
 .split at b
  case h_2=>cases b
  rename_i h E;split at b
  case isFalse=>cases b
  rename_i C;simp only[a7y,a8x]at b;obtain⟨rfl,rfl⟩:=b;obtain⟨rfl,L⟩:=C;cases G with
  |bE y d c x e hk w=>simp_all
 .cases b
def J9(z:aZ u e5 n)(F:Holds u f l)(c:nf f e n=β (i,g))(r:Program):
  ∃x:List Value,Src r l e i e5 x/\α x=α g/\(∀h k,g[h]?=β k->aZ u (x.getD h Go.undef) k)/\(∀C∈g,C.one=η):=by
 unfold nf at c;split at c
 .rename_i b;split at c
  case isFalse=>cases c
  rename_i G;simp only[a7y,a8x]at c;obtain⟨rfl,rfl⟩:=c;subst G;obtain rfl:=z.dD;have P:α b.data.toList=b.size:=ς;have D:∀y:World,(Builtin.firstCells 1 b.size (.string b)).run r y=.ok (b.data.toList.map λd=>Value.int .u8 d.toNat).toArray y:=λy=>by
   simp only[Builtin.firstCells,Sem.run_pure];have:b.extract 0 b.size=b:=ς;rw[this];congr 1;apply abk;simp
  refine⟨b.data.toList.map λd=>Value.int .u8 d.toNat,⟨rfl,D l,D l.drew,ς⟩,ς,λh k p=>?_,λC L=>?_⟩
  .rw[a7R]at p;rw[a8n,a7R];cases E:b.data.toList[h]? with
   |none=>simp[E]at p
   |some d=>
    rw[E]at p;obtain rfl:aj d=k:=by simpa using p
    exact .v _ rfl
  .obtain⟨d,_,rfl⟩:=a7G.1 L;rfl
 .exact wM z F c r
theorem Bl{d:Array Value}(k:∀b∈d.toList,b.oneCell'=η)(h:Nat):∀b∈(Builtin.zeroCells d h).toList,b.oneCell'=true:=by intro b c;unfold Builtin.zeroCells at c;simp only[a9P,a7G]at c;obtain⟨p,r,rfl⟩:=c;grind[Nat.eq_zero_or_pos,Nat.mod_lt]
theorem Bm(z C:Operand)(D E:TypeId)(I:TypeDesc)(Y:m.underlying E=β I)(j9:(∃a09,I=.slice a09)\/I=.string)(e:o.op=.call {callee:=.builtin .append,args:=#[z,C],argTypes:=#[D,E]})(r:TypeId)(K:m.underlying D=β (.slice r))(c:TypeInfo)(k0:m.info? r=β c)(M:Value)(n9:c.zero=β M)
    (a30:M.cells.size=c.size) (a34:∀z∈M.cells.toList,z.oneCell'=η) (k1:0<c.size) (a36:aQ z=η) (a38:aQ C=η) (a10:bP u a j) (P:Holds u f l) (h:G ⟨m,t⟩ (.me c.size c.bytes z C) j f Z):bV m t o a l u f Z:=by
  have A:=a10.al z a36;have a42:=a10.al C a38;simp only[G]at h;split at h
  case h_2=>trivial
  rename_i k B a43;obtain⟨g,N,a00,a47,n1⟩:=J9 a42 P a43 m;have a11:∀n2∈g,n2.oneCell'=true:=λn2 K=>by
    obtain⟨S,a01⟩:=aa3 K;have a13:S<α B:=by grind
    have:=a47 S _ (Ρ a13);rw[a8n,a01]at this;exact this.o3 (n1 _ (a7O a13))
  have a14:=N.size;have a02:bx u g.toArray B:=bx.dZ.2 ⟨by trivial,λS a15 n2 a84 a86=>by
    grind⟩
  generalize k2:a.eval z=a15 at A;have newRow:∀(n3:List Value)(b d:Nat)(F:ύ),α n3=b*c.size->bx u n3.toArray F->(∀i∈F,i.one=η)->b+k<=d->
      let y:=n3.toArray++g.toArray++Builtin.zeroCells M.cells (d -(b+k))
      ∃n:ύ,α n=(d -(b+k))*c.size/\Step u f l u (f.set l.heap.size (.cells (F++B++n))) (l.drew.alloc (.cells y r)):=by
    intro n3 b d F O k8 k3 k9 y;have a48:=Bl a34 (d -(b+k));have V:=bx.ph u _ a48;refine⟨(Builtin.zeroCells M.cells (d -(b+k))).toList.map cv,by simp[size_zeroCells,a30],?_⟩;refine(Step.drew P).trans (Step.new P.drew y r _ (λi W=>?_) ?_)
    . simp only[a7z,a7G]at W
      rcases W with (W|W)|⟨z,_,rfl⟩
      . exact k3 i W
      . exact n1 i W
      . exact o5 z
    . rw[bx.dZ]at k8 a02 V|-
      grind
  split at h
  . rename_i a52 n4 l0
    rw[l0]at A;obtain⟨rfl,a16,H,k4,h⟩:=h;have a56:∃Q,a15=.slice Q 0 0/\(n4=.nil->Q=ζ):=by
      cases A with
      |di Q d n4 bZ e=>
        rcases a16 with rfl|rfl
        . simp only[Own.lY]at e;simp[*]
        . simp only[Own.lY]at e;simp[*]
      |J a88 L len d a18 a89 a52 n4 k1 hlen k9 a90 k3 hH a92 e=>rcases a16 with rfl|rfl<;>exact e.elim
    obtain⟨Q,rfl,a94⟩:=a56;by_cases a19:k=0
    . subst a19
      rw[if_pos rfl]at h;have a57:g=[]:=a7t (by simpa using a14);subst a57;have a61:aZ u (.slice Q 0 0) (.J [] n4):=by omega
      refine .same P (jg z C D E e ?_) a61 h;rw[k2];have a62:=N.len;have a63:=N.cells;rcases j9 with⟨a09,rfl⟩|rfl<;>cases Q<;>simp[Builtin.append_,run_underlying K,run_underlying Y,sizeOf,typeInfo,k0,a62,a63,storeCells]
    . rw[if_neg a19]at h
      have V:=qw l D E o.type r c M K I Y j9 k0 n9 Q 0 0 [] ς (by cases Q<;>simp[Builtin.firstCells,loadCells,loadCellsFrom]) k (a.eval C) g N δ δ (by simpa using H);simp only[a7Q]at V;have s:=grownCap_ge l k 0 r;have l1:=grownCap_le_maxLen l k 0 r (by unfold maxLen;omega);obtain⟨n,k5,k6⟩:=newRow [] 0 (grownCap l k 0 r) [] ς ⟨rfl,λS n2 a65=>by simp at a65⟩ (λi W=>by simp at W) δ;simp only[a7Q,a7H]at k6 k5;exact .value (jg z C D E e (by rw[k2];exact V)) k6 (.aq _ _ _ _ k1 s) (h _ _ n P.ek s l1 k5)
  . rename_i x b d a27 l0
    rw[l0]at A;have a29:∀(p:ύ)(a03:ύ->bu),f.read x=β p->a27=c.size->α p=d*c.size->(b+k)*c.bytes<=140737488355328->b+k<=9223372036854775807->
        (∀(F:ύ)(k7:Array Value),bx u k7 F->(∀i∈F,i.one=η)->b*c.size+α F<=α p->∃y T l2,l.heap[x]?=β (.cells y T l2)/\(∀S,S<y.size->¬(l2.1<=S/\S<l2.2))/\y.size=α p/\Step u f l u (f.set x (a03 (putAt p (b*c.size) F))) (l.setRow x (df y (b*c.size) k7.toList)))->
        (if b+k<=d then Z (.aq x (b+k) d c.size) (f.set x (a03 (putAt p (b*c.size) B)))
           else∀a04 n5 n,f a04=ζ->b+k<=n5->n5<=maxLen->α n=(n5 -(b+k))*c.size->Z (.aq a04 (b+k) n5 c.size) (f.set a04 (.cells (p.take (b*c.size)++B++n))))->bV m t o a l u f Z:=by
      clear h;intro p a03 w l3 X H k4 a68 h;subst l3;obtain⟨k3,y,T,l2,a69,l4⟩:=P.read w;have a71:=l4.1;cases A with
      |aq x b d a18 a73 k9=>
        have a74:b*c.size<=α p:=by rw[X];exact a7D _ k9
        by_cases q:b+k<=d
        . rw[if_pos q]at h
          have l5:b*c.size+α B<=α p:=by rw[<-a00,a14,X,<-a8w];exact a7D _ q
          obtain⟨l6,l7,a81,l8,a83,l9,n0⟩:=a68 B g.toArray a02 n1 l5;have V:=B6 l D E o.type r c K I Y j9 k0 x b d l6 l7 a81 l8 a83 k (a.eval C) g N a11 q (by rw[l9,a00];exact l5);exact .value (jg z C D E e (by rw[k2];exact V)) n0 (.aq _ _ _ _ k1 q) h
        . rw[if_neg q]at h
          have O:(y.toList.take (b*c.size)).length=b*c.size:=Μ;have a05:(Builtin.firstCells c.size b (.slice (β ⟨x,0,ζ⟩) b d)).run m l.drew=.ok (y.toList.take (b*c.size)).toArray l.drew:=by
            refine run_firstCells_some l.drew c.size b ⟨x,0,ζ⟩ b d _ O (λS v A=>?_);have a01:S<b*c.size:=by grind
            rw[hA,a7Q];show l.cell? _= _;grind[cell_of_row,List.getElem?_take_of_lt]
          have V:=qw l D E o.type r c M K I Y j9 k0 n9 (β ⟨x,0,ζ⟩) b d _ O a05 k (a.eval C) g N δ δ H;have s:=grownCap_ge l (b+k) d r;have l1:=grownCap_le_maxLen l (b+k) d r (by unfold maxLen;omega);have k8:bx u (y.toList.take (b*c.size)).toArray (p.take (b*c.size)):=by rw[bx.dZ]at l4|-;grind
          obtain⟨n,k5,k6⟩:=newRow _ b (grownCap l (b+k) d r) (p.take (b*c.size)) O k8 (λi W=>k3 i (a7A W)) s;exact .value (jg z C D E e (by rw[k2];exact V)) k6 (.aq _ _ _ _ k1 s) (h _ _ n P.ek s l1 k5)
    split at h
    . rename_i p w
      obtain⟨l3,X,H,k4,h⟩:=h;refine a29 p .cells (by simp[U.read,w]) l3 X H k4 (λF k7 a06 a07 a08=>?_) h;obtain⟨l6,l7,l8,l9,n0⟩:=Step.store P w (b*c.size) F k7 a06 a07 a08;grind
    . rename_i p w
      obtain⟨l3,X,H,k4,h⟩:=h;refine a29 p .fL (by simp[U.read,w]) l3 X H k4 (λF k7 a06 a07 a08=>?_) h;obtain⟨l6,l7,l8,l9,n0⟩:=Step.Iu P w (b*c.size) F k7 a06 a07 a08;grind
    . trivial
  . rename_i x L b d a27 l0
    rw[l0]at A;split at h
    case h_2=>trivial
    rename_i p w;obtain⟨rfl,X,H,k4,h⟩:=h;obtain⟨k3,y,T,l2,a69,l4⟩:=P.read (l:=x) (p:=p) (by simp[U.read,w]);have a71:=l4.1;cases A with
    |bE x L b d a18 a73 k9=>
      have a74:b*c.size<=d*c.size:=a7D _ k9;by_cases q:b+k<=d
      . rw[if_pos q]at h
        have l5:L+b*c.size+α B<=α p:=by have:=a7D c.size q;grind
        obtain⟨l6,l7,l8,l9,n0⟩:=Step.store P w (L+b*c.size) B g.toArray a02 n1 l5;have V:=Ix l D E o.type r c K I Y j9 k0 x L b d l6 l7 _ l8 (wB _) k (a.eval C) g N a11 q (by rw[l9,a00];exact l5);exact .value (jg z C D E e (by rw[k2];exact V)) n0 (.bE _ _ _ _ _ k1 q) h
      . rw[if_neg q]at h
        have O:((y.toList.drop L).take (b*c.size)).length=b*c.size:=Μ;have a05:(Builtin.firstCells c.size b (.slice (β ⟨x,L,ζ⟩) b d)).run m l.drew=.ok ((y.toList.drop L).take (b*c.size)).toArray l.drew:=by
          refine run_firstCells_some l.drew c.size b ⟨x,L,ζ⟩ b d _ O (λS v A=>?_);have a01:S<b*c.size:=by grind
          rw[hA];show l.cell? _= _;grind[cell_of_row,List.getElem?_take_of_lt]
        have V:=qw l D E o.type r c M K I Y j9 k0 n9 (β ⟨x,L,ζ⟩) b d _ O a05 k (a.eval C) g N δ δ H;have s:=grownCap_ge l (b+k) d r;have l1:=grownCap_le_maxLen l (b+k) d r (by unfold maxLen;omega);have k8:bx u ((y.toList.drop L).take (b*c.size)).toArray ((p.drop L).take (b*c.size)):=by rw[bx.dZ]at l4|-;grind
        obtain⟨n,k5,k6⟩:=newRow _ b (grownCap l (b+k) d r) ((p.drop L).take (b*c.size)) O k8 (λi W=>k3 i (a7U (a7A W))) s;exact .value (jg z C D E e (by rw[k2];exact V)) k6 (.aq _ _ _ _ k1 s) (h _ _ n P.ek s l1 k5)
  . trivial
end
variable{b0:Type}
section
variable{o:Oper}{a:Act}
def U.set_set(c:U)(b:Nat)(h d:bu):(c.set b h).set b d=c.set b d:=by funext k;simp only[U.set];split<;>rfl
theorem Ja(c:TypeId)(b:Operand)(r:o.op=.box c b)(x:aQ b=η)(y:bP u a j)(d:Holds u f l)(h:G ⟨m,t⟩ (.ll c b) j f Z):bV m t o a l u f Z:=by obtain⟨z,C⟩:=(y.al b x).cells h.1;have k:=Step.new d (a.eval b).cells c _ C z;obtain⟨D,p⟩:=Step.freeze k.holds (U.ai f l.heap.size (.cells (al j b).cells));rw[U.set_set]at p;refine .value ?_ (k.trans p) (.ptr _ _) (h.2 _ d.ek);simp[execOp,r,Instr.box,newVar,newRow]
theorem Jb(p:TypeId)(c:Operand)(d h:Option Operand)(y:o.op=.slice p c d h ζ)(r:Nat)(x:TypeId)(z:m.underlying p=β (.array r x))(k:Nat)(C:(m.info? x).map (·.size)=β k)(D:0<k)(E:aQ c=η)(F:d.all aQ=η)
  (L:h.all aQ=η) (P:bP u a j) (S:Holds u f l) (b:G ⟨m,t⟩ (.kq k r c d h) j f Z):bV m t o a l u f Z:=by
 refine Bg p c d h y r x z k C D η E F L P S ?_;simp only[G]at b|-;split at b
 case h_2=>trivial
 rename_i V W e;split at b
 case h_2=>trivial
 refine⟨b.1,b.2.1,b.2.2.1,?_⟩;have T:=b.2.2.2;split at T
 case h_2=>trivial
 simp_all [U.read,Bf]
theorem Bn(d:Bool)(D:IntKind)(b c:Operand)(E:Array TypeId)(k:o.op=.call {callee:=.builtin (if d then .max else .min),args:=#[b,c],argTypes:=E})(F:aQ b=η)(L:aQ c=η)(p:bP u a j)(r:Holds u f l)(h:G ⟨m,t⟩ (.mc d D b c) j f Z):bV m t o a l u f Z:=by
 have x:=p.al b F;have y:=p.al c L;simp only[G]at h;split at h
 case h_2=>trivial
 rename_i T V W e P S;rw[P]at x;rw[S]at y;have z:=x.dD;have C:=y.dD;obtain⟨rfl,g⟩:=h;cases d
 .refine .same r ?_ (.v _ rfl) (by trivial);simp only[execOp,k,resolve,invoke,builtin,a8o,if_false,Sem.run_bind,Sem.run_pure,Result.andThen_ok,List.map_toArray,a7C,a8K,z,C,run_min_int2];grind
 .refine .same r ?_ (.v _ rfl) (by trivial);simp only[execOp,k,resolve,invoke,builtin,if_true,Sem.run_bind,Sem.run_pure,Result.andThen_ok,List.map_toArray,a7C,a8K,z,C,run_max_int2];grind
def Bo:∀ {h:ύ}{d:ϊ},bytesOf h=β d->h=d.map aj
 |[],d,b=>by simp only[bytesOf,a7y]at b;subst b;rfl
 |r::h,d,b=>by
  simp only[bytesOf]at b;split at b
  case h_2=>cases b
  rename_i x aV c k;obtain rfl:=Δ b;rw[Bo k,a7C];congr 1;unfold byteOf at c;split at c
  .rename_i p;split at c
   .rename_i y;obtain rfl:=Δ c;simp only[aj];congr 2;have:p.toNat<256:=δ;simp[a9d this];omega
   .cases c
  .cases c
theorem rY(b:ϊ):flat (b.map aj)=b.map aj:=by
 induction b with
 |nil=>rfl
 |cons c b ih=>simp only[flat,a7C,a7P]at ih|-;rw[ih];rfl
theorem Jc(d h:TypeId)(k:Operand)(w:o.op=.convert d h k)(r:TypeId)(E:m.underlying d=β (.slice r))(F:m.underlying r=β (.int .u8))(L:m.underlying h=β .string)(A:aQ k=η)(B:bP u a j)(W:Holds u f l)(z:G ⟨m,t⟩ (.qD k) j f Z):bV m t o a l u f Z:=by
 have C:=B.al k A;simp only[G]at z;split at z
 case h_2=>trivial
 rename_i H e I;rw[I]at C;split at z
 case h_2=>trivial
 rename_i b K;have M:=Bo K;subst M;generalize P:a.eval k=x at C;have S:∀x,(convert d h x).run m l=.ok (.string ⟨b.toArray⟩) l->a.eval k=x->bV m t o a l u f Z:=λx N O=>
  .same W (by simp[execOp,w,O,N]) (.v _ rfl) z
 cases T:b with
 |nil=>
  subst T;cases C with
  |di D c e bZ Q=>
   refine S _ ?_ P;rw[run_convert_bytes_string l d h r D 0 c E F L];cases D with
   |none=>simp[Conv.bytesToString];rfl
   |some D=>have:=run_bytesToString (P:=m) l D 0 c [] abH;rw[this];rfl
  |J y V len c g i H e X hlen Y k7 j9 n q Q=>refine S _ ?_ P;subst hlen;rw[run_convert_bytes_string l d h r _ _ c E F L];have:=run_bytesToString (P:=m) l ⟨y,V,ζ⟩ 0 c [] abH;simp only[a8K,a7x];rw[this];rfl
 |cons k0 k8=>
  obtain⟨y,V,c,g,i,k1,X,Y,k2,j9,n,q,_⟩:=C.wI (by rw[T];simp);have k3:g=1:=by have:=k2 (aj k0) (by rw[T];simp);rw[<-this];rfl
  subst k3;refine S x ?_ P;rw[k1];have k9:=run_convert_bytes_arg l d r E F y V (b.map aj).length c (b.map λy=>(y.toNat)) ς (λp k4=>by
   have s:p<α b:=by simpa using k4
   have k5:=W.ro _ _ _ (n p δ);rw[k5];have v:=q p (aj b[p]) (by rw[rY];simp[s]);have k6:i p=.int .u8 (b[p].toNat):=by unfold aj at v;exact v.dD
   rw[k6];simp[s]) h L
  simp_all [strOfNums,a8W]
theorem wN{p:Type}(b:List p):∀(d c:Nat),c<d*α b->(ε d b).flatten[c]?=b[c%α b]?
 |0,c,h=>by simp at h
 |d+1,c,h=>by
  rw[a9D,a9f];by_cases k:c<α b
  .rw[a9i k,a9d k]
  .rw[aa6 δ,wN b d (c - α b) (by rw[aav]at h;omega)];grind[Nat.mod_eq_sub_mod]
theorem lu(b:List b0)(c:Nat):(ε c b).flatten.length=c*α b:=by simp
theorem Jd(y:TypeId)(c k:Operand)(W:o.op=.makeSlice y c k)(p:TypeId)(e:m.underlying y=β (.slice p))(b:TypeInfo)(g:m.info? p=β b)(d:Value)(i:b.zero=β d)(r:d.cells.size=b.size)(j9:∀c∈d.cells.toList,c.oneCell'=η)(D:0<b.size)
  (n:aQ c=η) (q:aQ k=η) (E:bP u a j) (F:Holds u f l) (z:G ⟨m,t⟩ (.kr b.size b.bytes (d.cells.toList.map cv) c k) j f Z):bV m t o a l u f Z:=by
 have L:=E.al c n;have P:=E.al k q;simp only[G]at z;split at z
 case h_2=>trivial
 rename_i s h v k0 w A;rw[w]at L;rw[A]at P;have B:=L.dD;have H:=P.dD;obtain⟨rfl,I,K,M,N⟩:=z;have O:=run_make l y p b d e g i s v h h I (ab6 _) (by rw[Int.mul_comm];exact M) K;have Q:bx u (madeCells d.cells (h.toNat*b.size)) (ε h.toNat (d.cells.toList.map cv)).flatten:=by
  have S:(d.cells.toList.map cv).length=b.size:=by simp[r]
  refine bx.dZ.2 ⟨by simp[size_madeCells,r],λT c k1 x X=>?_⟩;have V:T<h.toNat*b.size:=by grind[Ζ,lu]
  rw[wN _ _ _ (by rw[S];exact V),S,a7R]at X;rw[a8X]at x;have k2:T%b.size<d.cells.size:=by rw[r];exact a9t _ D
  simp only[madeCells,r]at x;rw[Array.getElem?_map]at x;simp only[abl,V,if_true,a8u,a7y]at x;grind[Array.getElem?_eq_getElem,Option.some.injEq,aZ.cv]
 refine .value (by simp[execOp,W,B,H,O]) (Step.new F _ p _ (λk3 C=>?_) Q) (.aq _ _ _ _ D (a7T _)) (N _ F.ek);obtain⟨k4,Y,C⟩:=aaN.1 C;obtain rfl:=(List.mem_replicate.1 Y).2;obtain⟨c,_,rfl⟩:=a7G.1 C;exact o5 c
theorem Je(N k4:TypeId)(y z:Operand)(k5:o.op=.call {callee:=.builtin .copy,args:=#[y,z],argTypes:=#[N,k4]})(r:TypeId)(k6:m.underlying N=β (.slice r))(S:Nat)(O:(m.info? r).map (·.size)=β S)
  (k7:aQ y=η) (k8:aQ z=η) (Q:bP u a j) (i:Holds u f l) (C:G ⟨m,t⟩ (.mT S y z) j f Z):bV m t o a l u f Z:=by
 have x:=Q.al y k7;have E:=Q.al z k8;simp only[G]at C;have a05:∀(h p c F d:Nat)(b L:ύ)(n:Own),aZ u (a.eval z) (.J b n)->a.eval y=.slice (β ⟨h,p,ζ⟩) c F->d=S->(∀r∈b,α r.cells=S)->f h=β (.cells L)->p+c*S<=α L->
   Z (.v (.int .i64 (min (α b) c))) (f.set h (.cells (putAt L p (flat (b.take c)))))->bV m t o a l u f Z:=by
  intro h p c F d b L n E s k9 P w a06 l0;subst k9;have l1:∀r∈b.take c,α r.cells=d:=λr V=>P r (a7A V);have a07:(flat (b.take c)).length=(min (α b) c)*d:=by rw[cU l1,a7q,Nat.min_comm]
  have a08:min (α b) c*d<=c*d:=a7D _ δ;have l2:∃D:Array Value,(Builtin.firstCells d (min (α b) c) (a.eval z)).run m l=.ok D l/\bx u D (flat (b.take c))/\(∀A∈flat (b.take c),A.one=η)/\(Builtin.lenOf (a.eval z)).run m l=.ok (α b) l:=by
   obtain⟨B,W,l3,a09,l4⟩:=E.src i P m;have a10:=((gh c P).2).symm;have a11:=cU P;generalize a13:a.eval z=l5 at E W;have l6:(Builtin.firstCells d (min (α b) c) l5).run m l=.ok (B.take (min (α b) c*d)).toArray l:=by
    cases E with
    |di l7 X dv bZ l8=>have:=a7t (by rw[l3];rfl);subst this;cases l7<;>simp[Builtin.firstCells,loadCells,loadCellsFrom]
    |J Y j9 len X e q xs dv a14 l9 a15 a16 a18 hH a19 l8=>
     subst l9;have a27:∀k v,B[k]?=β v->l.cell? ((⟨Y,j9,ζ⟩:Addr).add k)=β v:=by
      intro k v g;have a29:k<(flat b).length:=by grind
      have H:=W.cells;by_cases k0:b=[]
      .subst k0;trivial
      have n0:e=d:=by
       match b,k0 with
       |a30::a34,_=>simp_all
      subst n0;have n1:=run_firstCells_some (P:=m) l e (α b) ⟨Y,j9,ζ⟩ (α b) X ((ω (α b*e)).map q) ς (λk v x=>by
       have g:k<α b*e:=by grind
       rw[a7R,a9E g]at x;obtain rfl:q k=v:=by simpa using x
       rw[hA];exact i.ro _ _ _ (hH k g))
      rw[n1]at H;simp only[Result.ok.injEq,and_true]at H;have n2:(ω (α b*e)).map q=B:=by simp_all
      rw[<-n2,a7R,a9E δ]at g;obtain rfl:q k=v:=by simpa using g
      rw[hA];exact i.ro _ _ _ (hH k δ)
     grind[run_firstCells_some,min,Nat.mul_le_mul_right]
   refine⟨_,l6,bx.dZ.2 ⟨?_,λk y a36 a38 a42=>?_⟩,λA H=>l4 A (by grind),W.len⟩;simp_all;grind
  obtain⟨D,n3,I,k1,n4⟩:=l2;obtain⟨k2,T,n5,a43,n9⟩:=Step.store i w p (flat (b.take c)) D I k1 δ;refine .value ?_ n9 (.v _ rfl) l0;have k3:=run_storeCells_at m h p T D.toList 0 k2 l n5 (by have:=I.1;simp;omega) (I.o3 k1);simp only[a9p]at k3;have a00:(storeCells ⟨h,p,ζ⟩ D.toList).run m l=.ok () (l.setRow h (df k2 p D.toList)):=by rw[k3];rfl
  cases K:m.info? r with
  |none=>simp[K]at O
  |some ii=>
   have W:ii.size=d:=by simpa[K] using O
   have a01:Nat.min (α b) c=min (α b) c:=rfl;simp[execOp,k5,resolve,invoke,builtin,s,Builtin.copy_,run_underlying k6,n4,sizeOf,typeInfo,K,W,a01,n3,a00,goInt];omega
 split at C
 .rename_i h p c F d b n V M;rw[V]at x;rw[M]at E;obtain⟨rfl,P,C⟩:=C;split at C
  case h_2=>trivial
  rename_i L w;generalize s:a.eval y=a02 at x;cases x with
  |bE h p c F d a03 a04=>grind
 .rename_i h c F d b n V M;rw[V]at x;rw[M]at E;obtain⟨rfl,P,C⟩:=C;split at C
  case h_2=>trivial
  rename_i L w;generalize s:a.eval y=a02 at x;cases x with
  |aq h c F d a03 a04=>grind
 .trivial
theorem Jf(C:Bool)(E:TypeId)(k:Operand)(g:TypeId)(S:o.op=.binOp (if C then .neq else .eql) E k (.const (.slice ζ 0 0)) g)(T:TypeId)(i:m.underlying E=β (.slice T))(n:aQ k=η)(q:bP u a j)(c:Holds u f l)
  (d:G ⟨m,t⟩ (.mU C k) j f Z):bV m t o a l u f Z:=by
 have r:=q.al k n;have V:∀v,a.eval (.const v)=v:=λ_=>rfl;have F:∀b x z,a.eval k=.slice b x z->(execOp a.eval o).run m l=.ok (.value (.bool (xor C b.isNone))) l:=λb x z p=>by
  have W:=run_equalIn_slice_nil l 9999 E T b x z i;cases C
  .simp[execOp,S,p,V,eqGuard,binOp,Op.equal,Op.maxDepth,W]
  .simp[execOp,S,p,V,eqGuard,binOp,Op.equal,Op.maxDepth,W]
 simp only[G]at d;split at d
 case h_3=>trivial
 case h_2=>
  rename_i s x y e L;rw[L]at r;generalize p:a.eval k=w at r;cases r with
  |aq s x y e I A=>exact .same c (F _ x y p) (.v _ rfl) (by simpa using d)
 rename_i B D L;rw[L]at r;generalize p:a.eval k=w at r;cases r with
 |di b y D bZ P=>
  have h:=F b 0 y p;cases D with
  |nil=>simp only[Own.lY]at P;subst P;exact .same c h (.v _ rfl) (by simpa using d)
  |buf H z=>trivial
  |any=>cases b with
   |none=>exact .same c h (.v _ rfl) (by simp_all)
   |some b=>exact .same c h (.v _ rfl) (by simpa using d.2)
  |zero=>cases b with
   |none=>exact .same c h (.v _ rfl) (by simp_all)
   |some b=>exact .same c h (.v _ rfl) (by simpa using d.2)
 |J K off len y e M B D hk hlen A N O hH Q P=>
  have h:=F _ len y p;cases D with
  |nil=>trivial
  |buf H z=>exact .same c h (.v _ rfl) (by simpa using d)
  |any=>exact .same c h (.v _ rfl) (by simpa using d.2)
  |zero=>trivial
theorem Jg(k E:TypeId)(y:Operand)(z:o.op=.convert k E y)(c:TypeId)(F:m.underlying k=β .string)(W:m.underlying E=β (.slice c))(e:m.underlying c=β (.int .u8))(g:aQ y=η)(i:bP u a j)(C:Holds u f l)(L:G ⟨m,t⟩ (.pq y) j f Z):bV m t o a l u f Z:=by
 have p:=i.al y g;simp only[G]at L;split at L
 case h_2=>trivial
 rename_i b P;rw[P]at p;have n:=p.dD;have q:=run_bytes_of_string l k E c b F W e;have s:(execOp a.eval o).run m l=.ok (.value (.slice (β ⟨l.heap.size,0,ζ⟩) b.size (grownCap l b.size 0 c))) (l.drew.alloc (.cells (bytesRow b (grownCap l b.size 0 c)) c ((bytesRow b (grownCap l b.size 0 c)).size,(bytesRow b (grownCap l b.size 0 c)).size+1))):=by simp[execOp,z,n,q]
 have w:=grownCap_ge l b.size 0 c;generalize grownCap l b.size 0 c=S at*;have A:b.size<=(bytesRow b S).size:=by
  have:b.data.size=b.size:=rfl;simp[bytesRow]
  try omega
 have B:∀d (h:d<b.size),(bytesRow b S)[d]?=β (.int .u8 ((b.data[d]'h).toNat)):=λd h=>by
  simp_all [bytesRow,aa7]
 generalize bytesRow b S=r at*;have k:=Step.write (h9:=l.drew.alloc (.cells r c (r.size,r.size+1))) C.drew l.heap.size b.size r c f rfl rfl rfl ς (heap_alloc_new l.drew _) (λD _ T=>qu l.drew _ D T) (.inl rfl)
   A (λo v p=>by rw[C.mQ]at p;cases p) (λM o N F=>F)
   (λo z=>by rw[C.ek]at z;cases z)
 refine .value s ((Step.drew C).trans k) ?_ L;by_cases H:b.size=0
 .have:b.data.toList=[]:=by simp_all
  rw[H,this];exact .di _ _ _ (λI=>by cases I) trivial
 .refine .J _ _ _ _ 1 (λd=>r.getD d undef) _ _ δ ?_ w (λc P=>?_) (λO V=>?_) (λd h=>?_) (λd Q x=>?_) trivial;simp
  .obtain⟨D,_,rfl⟩:=a7G.1 P;rfl
  .rw[rY]at V;obtain⟨D,_,rfl⟩:=a7G.1 V;rfl
  simp_all [a7Q,bn.pf]
  .rw[rY,a7R]at x;have h:d<b.size:=by rw[a9W]at x;obtain⟨D,T,_⟩:=x;have:=(a7u.1 T).1;trivial
   have K:d<b.data.size:=h;rw[a8X,a9x K,a8u,a7y]at x;subst x;rw[a8k,B d h];exact .v _ rfl
end
variable{I:Bool}
section
variable{o:Oper}{a:Act}
def bP.map(p:bP u a j){b:Array Operand}(r:∀d∈b.toList,aQ d=η):bx u (b.map a.eval) (b.toList.map (Go.bD.al j)):=by
 refine bx.dZ.2 ⟨ς,λx d y c h=>?_⟩;rw[a9P,a7R]at c;rw[a7R]at h;cases k:b.toList[x]? with
 |none=>simp[k]at c
 |some op=>
  rw[k]at c h;obtain rfl:a.eval op=d:=by simpa using c
  obtain rfl:Go.bD.al j op=y:=by simpa using h
  exact p.al op (r op (a7r k))
theorem bx.append{b c:Array Value}(d:bx u b g)(h:bx u c H):bx u (b++c) (g++H):=by rw[bx.dZ]at d h|-;grind
theorem Jh(b:FuncId)(first c:Array Operand)(r:o.op=.makeFunc (.func b) first c)(x:∀d∈first.toList,aQ d=η)(y:∀d∈c.toList,aQ d=η)(h:bP u a j)(z:Holds u f l)
  (C:G ⟨m,t⟩ (.bG b first.toList c.toList) j f Z):bV m t o a l u f Z:=by
 have k:=h.map x;have p:=h.map y;refine .same z ?_ (.bG b _ _ _ _ k.1 k.2 p.1 p.2) C;simp only[execOp,r,Instr.makeFunc,Sem.run_bind,Sem.run_pure,Result.andThen_ok]
theorem Ji(b:Operand)(args:Array Operand)(y:Array TypeId)(z:o.op=.call {callee:=.value b,args,argTypes:=y})(C:aQ b=η)
  (D:∀b∈args.toList,aQ b=η) (p:bP u a j) (r:Holds u f l) (c:G ⟨m,t⟩ (.jf b args.toList) j f Z):bV m t o a l u f Z:=by
 intro w A;have h:=p.al b C;simp only[G]at c;split at c
 case h_2=>trivial
 rename_i k E F L;obtain⟨P,c⟩:=c;obtain⟨d,S,T,V⟩:∃d,m.funcs[k]?=β d/\d.body.isSome/\d.name≠ "runtime.NumGoroutine" :=by unfold fA at P;grind
 rw[L]at h;generalize W:a.eval b=B at h;cases h with
 |bG k ws e E F hw g i n=>
  have q:=bx.append (bx.append ⟨hw,g⟩ (p.map D)) ⟨i,n⟩;have s:=c _ l u q r;have v:(execOp a.eval o).run m l=.ok (.enter k (ws++args.map a.eval++e)) l:=by
   cases x:d.body with
   |none=>simp[x]at T
   |some H=>simp[execOp,z,resolve,W,Deferred.ofValue,invoke,callFunc,S,V,x]
  unfold Oper.wp;rw[v];exact s.mono λI K r=>by
   grind
def Jj(b:TypeId)(c:Operand)(h:o.op=.makeInterface b c)(d:TypeDesc)(k:m.underlying b=β d)(p:∀r,d≠.interface r)(x:aQ c=η)(y:bP u a j)(z:Holds u f l)(C:G ⟨m,t⟩ (.qE b c) j f Z):bV m t o a l u f Z:=by
 refine .same z ?_ (.iface b _ _ (y.al c x)) C;cases d<;>first
  |exact absurd rfl (p _)
  |simp[execOp,h,Instr.makeInterface,run_underlying k]
def rZ{b:Value}(c:∀d,(Op.equalIn (d+1) b2 e5 b).run m l=.ok I l):(Op.equalIn 10000 b2 e5 b).run m l=.ok I l:=c 9999
theorem Bp(h:Holds u f l)(b:lp f e=η):∃c T,l.heap[e]?=β (.cells c T (0,0)):=by
 unfold lp at b;split at b
 .rename_i k d;obtain⟨_,c,T,p,_⟩:=h.cT e _ d;simp_all
 .rename_i T k d;obtain⟨_,c,p,_⟩:=h.cT e _ d;simp_all
 .cases b
def Jk(z:Bool)(S:TypeId)(p r:Operand)(K:TypeId)(n:o.op=.binOp (if z then .neq else .eql) S p r K)(V:TypeId)(x:m.underlying S=β (.pointer V))(W:TypeInfo)(M:m.info? V=β W)(q:W.size≠0)(N:aQ p=η)(O:aQ r=η)(s:bP u a j)(C:Holds u f l)
  (d:G ⟨m,t⟩ (.mS z p r) j f Z):bV m t o a l u f Z:=by
 have b:=s.al p N;have c:=s.al r O;simp only[G]at d;have D:∀(e g:Option Addr)(y:Bool),a.eval p=.pointer e->a.eval r=.pointer g->(Op.equalIn 10000 S (.pointer e) (.pointer g)).run m l=.ok y l->Z (.v (.bool (xor z y))) f->bV m t o a l u f Z:=by
  intro e g y v w E F;cases z
  .exact .same C (v:=.bool y) (by simp[execOp,n,v,w,eqGuard,binOp,Op.equal,Op.maxDepth,E]) (.v _ rfl) (by simpa using F)
  .exact .same C (v:=.bool (!y)) (by simp[execOp,n,v,w,eqGuard,binOp,Op.equal,Op.maxDepth,E]) (.v _ rfl) (by simpa using F)
 split at d
 .rename_i L Q h k;rw[h]at b;rw[k]at c;exact D _ _ ι b.jN c.dD (rZ (λP=>by simp[Op.equalIn,run_underlying x])) (by simpa using d)
 .rename_i L Q h k;rw[h]at b;rw[k]at c;exact D _ _ ι b.dD c.jN (rZ (λP=>by simp[Op.equalIn,run_underlying x])) (by simpa using d)
 .rename_i h k;rw[h]at b;rw[k]at c;exact D _ _ η b.dD c.dD (rZ (λP=>by simp[Op.equalIn,run_underlying x])) (by simpa using d)
 .rename_i L A B H h k;rw[h]at b;rw[k]at c;obtain⟨⟨X,c2⟩,F⟩:=d;obtain⟨k1,T,E⟩:=Bp C X;obtain⟨k2,k3,Y⟩:=Bp C c2;refine D _ _ _ b.jN c.jN ?_ F;have I:(sizeOf V).run m l=.ok W.size l:=by simp[sizeOf,typeInfo,M]
  by_cases i:L=B/\A=H
  .obtain⟨rfl,rfl⟩:=i;exact rZ (λP=>by simp[Op.equalIn,run_underlying x,I,q,run_sameAddr_same])
  .have j9:(⟨L,A,ζ⟩:Addr)≠⟨B,H,ζ⟩:=λk0=>i (by simpa using k0);have:=run_sameAddr_other (P:=m) (w:=l) j9 E Y;exact rZ (λP=>by simp[Op.equalIn,run_underlying x,I,q,this,i])
 .exact d.elim
def Jl(b:Operand)(r:o.op=.panic b)(x:aQ b=η)(y:bP u a j)(z:Holds u f l)(d:G ⟨m,t⟩ (.mV b) j f Z):bV m t o a l u f Z:=by
 intro P C;have c:=y.al b x;simp only[G]at d;split at d
 case h_2=>trivial
 rename_i h D E;rw[E]at c;have k:=c;generalize F:a.eval b=p at c k;cases c with
 |iface h p D S=>
  have L:(execOp a.eval o).run m l=.halt (.panic (.iface h p)) l:=by simp[execOp,r,F,run_panic_iface]
  unfold Oper.wp;rw[L];exact C _ _ _ _ _ (.refl z) k d
def Jm(d:TypeId)(b:Operand)(p:o.op=.range d b)(r:m.underlying d=β .string)(x:aQ b=η)(y:bP u a j)(h:Holds u f l)(c:G ⟨m,t⟩ (.kt b) j f Z):bV m t o a l u f Z:=by
 have k:=y.al b x;simp only[G]at c;split at c
 case h_2=>trivial
 rename_i z C;rw[C]at k;have D:=k.dD;refine .value ?_ (Step.B4 h _ (.it z 0) (heap_alloc_new l _)) (.ptr _ _) (c _ h.ek);simp[execOp,p,D,Instr.range,run_underlying r]
theorem Jn(x:Operand)(D:o.op=.next x η)(P:aQ x=η)(S:bP u a j)(z:Holds u f l)(h:G ⟨m,t⟩ (.mW x) j f Z):bV m t o a l u f Z:=by
 have E:=S.al x P;simp only[G]at h;split at h
 case h_2=>trivial
 rename_i k i T;rw[T]at E;obtain⟨rfl,h⟩:=h;have F:=E.jN;split at h
 case h_2=>trivial
 rename_i d c L;have p:l.heap[k]?=β (.stringIter d c):=z.cT k _ L;have n:=(a8D.1 p).1;by_cases y:c<d.size
 .rw[if_pos y]at h;have V:=Step.B5 z (c:=.stringIter d (c+(Utf8.decode d c).2)) (Y:=.it d (c+(Utf8.decode d c).2)) (by simp[L]) p (λq s j W=>by cases W) (by
   show(l.heap.setIfInBounds k _)[k]?= _;simp_all)
  refine .value (v:=.tuple #[.bool η,.int .i64 c,.int .i32 (Utf8.decode d c).1]) ?_ V (.aJ _ _ rfl (λr e b=>?_)) h
  .have C:(getObj k).run m l=.ok (.stringIter d c) l:=by simp[getObj,Sem.run,p]
   have g:(setObj k (.stringIter d (c+(Utf8.decode d c).2))).run m l=.ok () {l with heap:=l.heap.setIfInBounds k (.stringIter d (c+(Utf8.decode d c).2))}:=by simp[setObj,Sem.run,p]
   simp[execOp,D,F,Instr.next,C,y,g,goInt]
  .match r,b with
   |0,b=>simp at b;subst b;exact .v _ rfl
   |1,b=>simp at b;subst b;exact .v _ rfl
   |2,b=>simp at b;subst b;exact .v _ rfl
   |r+3,b=>simp at b
 .rw[if_neg y]at h;refine .same z (v:=.tuple #[.bool ι]) ?_ (.aJ _ _ rfl (λr e b=>?_)) h
  .have C:(getObj k).run m l=.ok (.stringIter d c) l:=by simp[getObj,Sem.run,p]
   simp[execOp,D,F,Instr.next,C,y]
  .match r,b with
   |0,b=>simp at b;subst b;exact .v _ rfl
   |r+1,b=>simp at b
end
section
def s0(b:Program)(p:Nat)(c:TypeId)(d:List cb):Prop:=
 ∀(r:Bool)(x:Nat)(a:World)(h:Array Value)(k:Nat),fM d ((h.toList.drop k).take (α d))->
  ∃o,(part c h k).run b a=.ok o a/\(Instr.checkKey r (x+p) c o).run b a=.ok () a
def wO{d:cb}{h:TypeDesc}(k:m.underlying b2=β h)(o:h.isRow=ι)(p:∀c r a b,d.fit a->(Instr.checkKey c (r+1) b2 a).run m b=.ok () b):s0 m (e+1) b2 [d]:=by intro c x b D E y;obtain⟨a,z,C,F⟩:=one_cell y;exact⟨a,o9 k o _ _ _ z b,p c (x+e) a b C⟩
theorem Jo(a:m.underlying b2=β (.int e1)):s0 m (e+1) b2 [.int e1]:=
 wO a rfl λb c d h k=>by
  simp_all [Instr.checkKey,run_underlying]
theorem Jp(a:m.underlying b2=β .bool):s0 m (e+1) b2 [.bool]:=
 wO a rfl λb c d h k=>by
  simp_all [Instr.checkKey,run_underlying]
theorem Jq(a:m.underlying b2=β .string):s0 m (e+1) b2 [.str]:=
 wO a rfl λb c d h k=>by
  simp_all [Instr.checkKey,run_underlying]
theorem wP:∀(d:Nat)(h:TypeId)(k:List cb),flatK m d h=β k->m.cellsOf h=α k->(m.info? h).isSome->s0 m d h k
 |0,h,k,a,_,_=>by trivial
 |d+1,h,k,a,L,j=>by
  simp only[flatK]at a;cases hu:m.underlying h with
  |none=>simp[hu]at a
  |some desc=>
   simp only[hu]at a;cases desc<;>simp only[]at a<;>first
    |(cases a;done)
    |skip
   case int N=>obtain rfl:=Δ a;exact Jo hu
   case bool=>obtain rfl:=Δ a;exact Jp hu
   case string=>obtain rfl:=Δ a;exact Jq hu
   case array o t=>
    split at a
    case h_2=>cases a
    rename_i b T;split at a
    case isFalse=>cases a
    rename_i p;obtain rfl:=Δ a;have ih:=wP d t b T p.1 p.2;obtain⟨x,C⟩:=a7Y.1 j;obtain⟨u,v⟩:=a7Y.1 p.2;have O:u.size=α b:=by simpa[Program.cellsOf,v] using p.1
    have D:x.size=(ε o b).flatten.length:=by simpa[Program.cellsOf,C] using L
    intro V y E z c F;refine⟨_,mh hu rfl C z c E,?_⟩;rw[show y+(d+1)=(y+d)+1 by omega,Instr.checkKey];simp only[Sem.run_bind,run_underlying hu,Result.andThen_ok];simp only[Std.Legacy.Range.forIn_eq_forIn_range',Std.Legacy.Range.size,Nat.sub_zero,Nat.add_one_sub_one,Nat.div_one];have r:fM (ε o b).flatten (((z.extract c (c+x.size)).toList.drop (0*α b)).take (ε o b).flatten.length):=by rw[aau,a8O,u4,D,a8B,a9A];exact F
    clear F D L a hu;generalize z.extract c (c+x.size)=W at r|-;generalize (0)=P at r|-
    induction o generalizing P with
    |zero=>simp
    |succ o Q=>simp only[a9D,a9f]at r;obtain⟨G,S⟩:=pr r;have e:min (α b) (b++(ε o b).flatten).length=α b:=ς;have f:(b++(ε o b).flatten).length - α b=(ε o b).flatten.length:=ς;rw[a8B,e]at G;rw[a8H,a8d,f,show P*α b+α b=(P+1)*α b by grind]at S;obtain⟨w,g,l⟩:=ih V y E W (P*α b) G;simp_all [List.range'_succ,run_sizeOf]
   case struct A=>
    split at a;trivial;obtain⟨x,C⟩:=a7Y.1 j;have D:x.size=α k:=by simpa[Program.cellsOf,C] using L
    intro V y E z c F;refine⟨_,mh hu rfl C z c E,?_⟩;rw[show y+(d+1)=(y+d)+1 by omega,Instr.checkKey];simp only[Sem.run_bind,run_underlying hu,Result.andThen_ok];rw[<-Array.forIn_toList];have r:fM k (((z.extract c (c+x.size)).toList.drop 0).take (α k)):=by rw[a8O,u4,D,a8B,a9A];exact F
    have ih:=λh b B H I=>wP d h b B H I;clear F D L hu;generalize z.extract c (c+x.size)=W at r|-;generalize (0)=n at r a;generalize A.toList=q at a|-
    induction q generalizing n k with
    |nil=>simp
    |cons X q K=>
     simp only[qG]at a;split at a
     case isFalse=>cases a
     rename_i s;split at a
     case h_2=>cases a
     rename_i b i T M;split at a
     case isFalse=>cases a
     rename_i p;obtain rfl:=Δ a;obtain⟨G,S⟩:=pr r;have e:min (α b) (b++i).length=α b:=ς;have f:(b++i).length - α b=α i:=ς;rw[a8B,e]at G;rw[a8H,a8d,f,<-p.1]at S;obtain⟨w,g,l⟩:=ih _ _ T p.1 p.2 V y E W n G;rw[<-s.1]at g;simp only[List.forIn_cons,Sem.run_bind,s.2,ne_eq,not_false_eq_true,if_true,Result.andThen_ok,g,l,Sem.run_pure];exact K _ _ S M
def Jr{a:cb}(b:a.fit e5)(c:Nat):Instr.sameBits c e5 e5=true:=by
 cases a<;>cases e5<;>first
  |exact b.elim
  |(simp[Instr.sameBits];done)
  |(simp only[Instr.sameBits];exact(Go.MapKept.bytes_beq _ _).2 rfl)
theorem Js{k:Array Value}:∀ {b:List cb},fM b k.toList->Instr.sameBits (e+1) (.agg k) (.agg k)=true:=by
 intro b d;simp only[Instr.sameBits,beq_self_eq_true,a8S];rw[a7E];have:∀(b:List cb)(a:List Value),fM b a->∀h∈a.zip a,Instr.sameBits e h.1 h.2=true:=by
  intro b
  induction b with
  |nil=>intro a d h c;cases a with
   |nil=>cases c
   |cons _ _=>exact d.elim
  |cons o b ih=>intro a d h c;cases a with
   |nil=>cases c
   |cons p a=>
    rcases a7J.1 c with rfl|c
    .exact Jr d.1 e
    .exact ih a d.2 h c
 grind
def fC(a:bn):List MapEntry->List (R×R×Nat)->Prop
 |[],[]=>True
 |b::es,c::us=>rS a b c/\fC a es us
 |_,_=>False
def o4.list{o:bn}:∀ {d:List MapEntry}{h:List (R×R×Nat)},α d=α h->(∀(k:Nat)(a:MapEntry)(b:R×R×Nat),d[k]?=β a->h[k]?=β b->rS o a b)->fC o d h
 |[],[],_,_=>trivial
 |a::d,b::h,c,p=>⟨p 0 a b rfl rfl,o4.list (by simpa using c) λk a b r x=>p (k+1) a b (by trivial) (by trivial)⟩
 |[],_:: _,c,_=>by simp at c
 |_:: _,[],c,_=>by simp at c
theorem Bq{C:bn}{x:Nat}{h:TypeId}{k:List (Nat×cb)}(i:flatK m x h=β (jM k))(N:x<=10000)(T:m.cellsOf h=(jM k).length)(V:(m.info? h).isSome){j:TypeDesc}(L:m.underlying h=β j)(l:j.isRow=η)
  {W:Value}{o:ύ} (O:aZ C W (.agg o)) (n:dp k o) (y:World):∀(D:List MapEntry)(E:List (R×R×Nat))(c:Nat),fC C D E->(∀F∈E,∃z,F.1=.agg z/\dp k z)->
  ∃d,(Instr.findAsking h W D c).run m y=.ok d y/\(match dM E (.agg o) c with
   |none=>d=ζ
   |some (e,v)=>∃p,d=β (e,p.val)/\c<=e/\D[e - c]?=β p/\p.key=W/\aZ C p.val v)
 |[],[],c,_,_=>⟨ζ,by rfl,rfl⟩
 |[],_:: _,_,a,_=>a.elim
 |_:: _,[],_,a,_=>a.elim
 |p::D,F::E,c,a,q=>by
  obtain⟨⟨f,l2,l3⟩,Q⟩:=a;obtain⟨z,s,X⟩:=q F ς;rw[s]at f;cases O with
  |agg b _ Y t u=>
   generalize w:p.key=l4 at f;cases f with
   |agg ws _ l5 Z j9=>
    have A:bx C b o:=⟨t,u⟩;have B:bx C ws z:=⟨Z,j9⟩;obtain⟨k0,k1⟩:=ps _ o b.toList n (bx.dZ.1 A).1 (bx.dZ.1 A).2;obtain⟨k2,k3⟩:=ps _ z ws.toList X (bx.dZ.1 B).1 (bx.dZ.1 B).2;have k4:b.size=(jM k).length:=by have:=o8 k0;trivial
    have k5:ws.size=(jM k).length:=by have:=o8 k2;trivial
    obtain⟨g,H⟩:=a7Y.1 V;have I:g.size=(jM k).length:=by simpa[Program.cellsOf,H] using T
    obtain⟨l6,l7,d,P,S,K,l8⟩:=u5 x h _ i T V (10000 - x) y b ws 0 (by grind) (by grind);rw[mh L l H]at P S;have k6:b.extract 0 (0+g.size)=b:=by rw[a7Q,I,<-k4];simp
    have k7:ws.extract 0 (0+g.size)=ws:=by rw[a7Q,I,<-k5];simp
    rw[k6]at P;rw[k7]at S;simp only[Result.ok.injEq,and_true]at P S;subst P;subst S;rw[show 10000 - x+x=10000 by omega]at K;have k8:(b=ws)↔d=true:=by grind[Ε,Array.toList_inj]
    have k9:peq (.agg o) (.agg z)=d:=by
     rw[a9T,qy,<-k8,k1,k3];constructor
     .intro a;have l9:=R.agg.inj a;have:∀G r:List Value,G.map R.v=r.map R.v->G=r:=λG r a=>by
       induction G generalizing r with
       |nil=>cases r with
        |nil=>rfl
        |cons _ _=>cases a
       |cons n0 G ih=>cases r with
        |nil=>cases a
        |cons n1 r=>grind
      grind
     .rintro rfl;rfl
    obtain⟨l0,l1,n2⟩:=Bq i N T V L l (.agg b o Y t u) n y D E (c+1) Q λF L=>q F (by simp[L]);have M:(Op.equal h (.agg b) (.agg ws)).run m y=.ok d y:=K;simp only[dM,s,k9];cases d with
    |true=>refine⟨β (c,p.val),by simp[Instr.findAsking,w,M],?_⟩;grind
    |false=>refine⟨l0,by simp[Instr.findAsking,w,M,l1],?_⟩;grind
end
structure nh(a:Program)(b:TypeId)(rs:List (Nat×cb)):Prop where
 flat:∃d,d<=10000/\flatK a d b=β (jM rs)
 size:a.cellsOf b=(jM rs).length
 info:(a.info? b).isSome
 row:∃c,a.underlying b=β c/\c.isRow=η/\(match a.underlying b with|some (.array _ _)|some (.struct _)=>η|_=>ι)=η
variable{j5:List (Nat × cb)}
section
theorem nh.check(a:nh m b2 j5)(r:aZ u e5 (.agg g))(x:dp j5 g)(d:Bool)(c:World):(Instr.checkKey d 10000 b2 e5).run m c=.ok () c:=by
 obtain⟨h,S,y⟩:=a.flat;obtain⟨T,z,C,_⟩:=a.row;cases r with
 |agg b _ V D E=>
  have k:bx u b g:=⟨D,E⟩;obtain⟨F,W⟩:=ps _ g b.toList x (bx.dZ.1 k).1 (bx.dZ.1 k).2;have G:b.size=(jM j5).length:=by have:=o8 F;trivial
  obtain⟨o,p⟩:=a7Y.1 a.info;have L:o.size=(jM j5).length:=by simpa[Program.cellsOf,p] using a.size
  obtain⟨e,P,f⟩:=wP h b2 _ y a.size a.info d (10000 - h) c b 0 (by grind);rw[mh z C p]at P;have i:b.extract 0 (0+o.size)=b:=by rw[a7Q,L,<-G];simp
  grind
theorem nh.find(a:nh m b2 j5)(r:aZ u e5 (.agg g))(x:dp j5 g)(k:World){b:List MapEntry}{c:List (R×R×Nat)}(y:fC u b c)(z:∀C∈c,∃o,C.1=.agg o/\dp j5 o):
  ∃d,(Instr.findKey b2 e5 b).run m k=.ok d k/\(match dM c (.agg g) 0 with
   |none=>d=ζ
   |some (p,v)=>∃h,d=β (p,h.val)/\b[p]?=β h/\h.key=e5/\aZ u h.val v):=by
 obtain⟨L,D,E⟩:=a.flat;obtain⟨P,F,G,S⟩:=a.row;obtain⟨d,T,V⟩:=Bq E D a.size a.info F G r x k b c 0 y z;grind[run_findKey_eq,dM,id]
def Jt{k o:TypeId}(p:m.underlying k=β (.map o b2))(r:nh m o j5){x:TypeInfo}(L:m.info? b2=β x)(P:x.zero=β e5){y:Value}(z:aZ u y (.agg g))(C:dp j5 g)
  {b:Array MapEntry} (D:l.heap[e]?=β (.map b i)) {a:List (R×R×Nat)} (S:fC u b.toList a) (T:∀V∈a,∃E,V.1=.agg E/\dp j5 E) (c:Bool):
  ∃d,(Instr.lookup k (.map (β e)) y c).run m l=.ok d l/\(match dM a (.agg g) 0 with
   |none=>d=if c then .tuple #[e5,.bool ι]else e5
   |some (_,v)=>∃h,aZ u h v/\d=if c then .tuple #[h,.bool η]else h):=by
 obtain⟨s,F,W⟩:=r.find z C l S T;have G:=r.check z C b.isEmpty l;have f:(zeroValue b2).run m l=.ok e5 l:=by simp[zeroValue,typeInfo,L,P]
 revert W;cases dM a (.agg g) 0 with
 |none=>rintro rfl;exact⟨_,by simp[Instr.lookup,run_underlying p,MapKept.run_getObj_map D,G,F,f],rfl⟩
 |some j=>obtain⟨t,v⟩:=j;rintro⟨n,rfl,_,_,q⟩;exact⟨_,by simp[Instr.lookup,run_underlying p,MapKept.run_getObj_map D,G,F],n.val,q,rfl⟩
def fC.leq:∀ {a:List MapEntry}{b:List (R×R×Nat)},fC u a b->α a=α b
 |[],[],_=>rfl
 |_:: _,_:: _,c=>by simp[fC.leq c.2]
theorem fC.set:∀ {c:List MapEntry}{d:List (R×R×Nat)}{h:Nat}{b:MapEntry}{k o:Value}{v:R},fC u c d->c[h]?=β b->b.key=k->aZ u o v->
  fC u (c.modify h λb=> {b with key:=k,val:=o}) (d.modify h λp=>(p.1,v,p.2.2))
 |[],_,_,_,_,_,_,_,a,_,_=>by simp at a
 |_:: _,[],_,_,_,_,_,a,_,_,_=>a.elim
 |x::c,p::d,0,b,k,o,v,a,he,hk,r=>by
  simp at he;subst he;simp only[abc];exact⟨⟨by rw[<-hk];exact a.1.1,r,a.1.2.2⟩,a.2⟩
 |x::c,p::d,h+1,b,k,o,v,a,he,hk,r=>by
  simp only[abd];exact⟨a.1,fC.set a.2 (by trivial) hk r⟩
def fC.push:∀ {b:List MapEntry}{c:List (R×R×Nat)}{d:MapEntry}{h:R×R×Nat},fC u b c->rS u d h->fC u (b++[d]) (c++[h])
 |[],[],_,_,_,a=>⟨a,trivial⟩
 |_:: _,_:: _,_,_,a,k=>⟨a.1,fC.push a.2 k⟩
theorem Ju{p S:TypeId}(r:m.underlying b2=β (.map p S))(x:nh m p j5){c:Value}{v:R}(d:aZ u e5 (.agg g))(k:dp j5 g)(y:aZ u c v)
  {a:Array MapEntry} (h:l.heap[i]?=β (.map a e)) {b:List (R×R×Nat)} (o:fC u a.toList b) (T:∀V∈b,∃z,V.1=.agg z/\dp j5 z):
  ∃C:Array MapEntry,(Instr.mapUpdate b2 (.map (β i)) e5 c).run m l=.ok () {l with heap:=l.heap.setIfInBounds i (.map C (lk b (.agg g) v e).2)}/\fC u C.toList (lk b (.agg g) v e).1:=by
 obtain⟨I,D,W⟩:=x.find d k l o T;have E:=x.check d k ι l;unfold lk;revert W;cases dM b (.agg g) 0 with
 |none=>
  rintro rfl;refine⟨a.push {key:=e5,val:=c,born:=e},?_,?_⟩
  .simp[Instr.mapUpdate,run_underlying r,MapKept.run_getObj_map h,E,D,MapKept.run_setObj_map _ h]
  .simp only[Array.toList_push];exact o.push ⟨d,y,rfl⟩
 |some f=>
  obtain⟨F,K⟩:=f;rintro⟨G,rfl,j,n,M⟩;have q:Instr.sameBits 10000 e5 e5=true:=by
   cases d with
   |agg L _ N s t=>have P:bx u L g:=⟨s,t⟩;obtain⟨w,O⟩:=ps _ g L.toList k (bx.dZ.1 P).1 (bx.dZ.1 P).2;have A:(10000)=9999+1:=rfl;rw[A];exact Js w
  have B:(Instr.keyThatStays e5 e5).run m l=.ok e5 l:=by simp[Instr.keyThatStays,q]
  have H:((a[F]?).map (·.key)).getD e5=e5:=by simp_all
  refine⟨a.modify F λG=> {G with key:=e5,val:=c},?_,?_⟩
  .simp only[Instr.mapUpdate,Sem.run_bind,run_underlying r,Result.andThen_ok,MapKept.run_getObj_map h,E,D,H,B,MapKept.run_setObj_map _ h]
  .rw[Array.toList_modify];exact o.set j n y
end
section
variable{o:Oper}{a:Act}
def aZ.wQ(b:aZ u e5 (.ff e)):e5=.map (β e):=by cases b;rfl
def Jv(c:TypeId)(d:o.op=.makeMap c ζ)(b:Holds u f l)(h:G ⟨m,t⟩ .ku j f Z):bV m t o a l u f Z:=by refine .value ?_ (Step.B4 b _ (.mp [] 0) ⟨#[],heap_alloc_new l _,rfl,λp r x k=>by simp at k⟩) (.ff _) (h _ b.ek);simp[execOp,d,Instr.makeMap]
def Jw(d:TypeId)(b:Operand)(r:o.op=.call {callee:=.builtin .len,args:=#[b],argTypes:=#[d]})(x y:TypeId)(z:m.underlying d=β (.map x y))
  (C:aQ b=η) (D:bP u a j) (h:Holds u f l) (c:G ⟨m,t⟩ (.pn b) j f Z):bV m t o a l u f Z:=by
 have k:=D.al b C;simp only[G]at c;split at c
 case h_2=>trivial
 rename_i p E;rw[E]at k;have F:=k.wQ;split at c
 case h_2=>trivial
 rename_i L P S;obtain⟨T,V,W,e⟩:=h.cT p _ S;refine .same h (v:=.int .i64 (α L)) ?_ (.v _ rfl) c;simp[execOp,r,resolve,invoke,builtin,F,Builtin.len_,run_underlying z,run_getObj_map l p T P V,goInt,W]
def Jx(z C D:TypeId)(p r:Operand)(h:Bool)(e:o.op=.lookup z p r h)(g:m.underlying z=β (.map C D))(i:nh m C j5){E:TypeInfo}(q:m.info? D=β E)(s:E.zero=β e5)(F:aZ u e5 n)
  (w:aQ p=η) (A:aQ r=η) (L:bP u a j) (x:Holds u f l) (c:G ⟨m,t⟩ (.kv h j5 n p r) j f Z):bV m t o a l u f Z:=by
 have P:=L.al p w;have S:=L.al r A;simp only[G]at c;split at c
 case h_2=>trivial
 rename_i B H I K;rw[I]at P;rw[K]at S;have M:=P.wQ;split at c
 case h_2=>trivial
 rename_i T k6 N;obtain⟨O,Q,c⟩:=c;obtain⟨X,Y,k7,j9⟩:=x.cT B _ N;have k0:fC u X.toList T:=o4.list (by trivial) λd k1 y k2 k3=>j9 d k1 y (by simpa using k2) k3;obtain⟨v,k4,k⟩:=Jt g i q s S O Y k0 Q h;have V:(execOp a.eval o).run m l=.ok (.value v) l:=by simp[execOp,e,M,k4]
 revert c k;cases dM T (.agg H) 0 with
 |none=>
  intro c k;subst k;refine .same x V ?_ c;cases h with
  |false=>exact F
  |true=>exact .aJ _ _ rfl (λd y b=>by
    match d,b with
    |0,b=>simp at b;subst b;exact F
    |1,b=>simp at b;subst b;exact .v _ rfl
    |d+2,b=>simp at b)
 |some k5=>
  obtain⟨d,k8⟩:=k5;intro c k;obtain⟨k9,W,rfl⟩:=k;refine .same x V ?_ c;cases h with
  |false=>exact W
  |true=>exact .aJ _ _ rfl (λd y b=>by
    match d,b with
    |0,b=>simp at b;subst b;exact W
    |1,b=>simp at b;subst b;exact .v _ rfl
    |d+2,b=>simp at b)
theorem fC.ok{k:bn}:∀ {p:List MapEntry}{r:List (R×R×Nat)},fC k p r->∀(d:Nat)(b:MapEntry)(c:R×R×Nat),p[d]?=β b->r[d]?=β c->rS k b c
 |_:: _,_:: _,h,0,b,c,he,hu=>by simp at he hu;subst he;subst hu;exact h.1
 |_:: _,_:: _,h,d+1,b,c,he,hu=>fC.ok h.2 d b c (by trivial) (by trivial)
 |[],_,_,_,_,_,he,_=>by simp at he
theorem Jy(r P i:TypeId)(c d v:Operand)(h:o.op=.mapUpdate r c d v\/o.op=.insert r c d v)(n:m.underlying r=β (.map P i))(q:nh m P j5)
  (s:aQ c=η) (w:aQ d=η) (A:aQ v=η) (x:bP u a j) (S:Holds u f l) (b:G ⟨m,t⟩ (.lo j5 c d v) j f Z):bV m t o a l u f Z:=by
 have T:=x.al c s;have V:=x.al d w;have B:=x.al v A;simp only[G]at b;split at b
 case h_2=>trivial
 rename_i H y I K;rw[I]at T;rw[K]at V;have M:=T.wQ;split at b
 case h_2=>trivial
 rename_i k z W;obtain⟨N,O,b⟩:=b;obtain⟨Q,C,k2,X⟩:=S.cT H _ W;have Y:fC u Q.toList k:=o4.list (by trivial) λD p E F L=>X D p E (by simpa using F) L;obtain⟨e,j9,g⟩:=Ju n q V N B C Y O;have k3:=(a8D.1 C).1;have k0:=Step.B5 S (c:=.map e (lk k (.agg y) (Go.bD.al j v) z).2) (Y:=.mp (lk k (.agg y) (Go.bD.al j v) z).1 (lk k (.agg y) (Go.bD.al j v) z).2) (by simp[W]) C (λk4 p j k1=>by cases k1)
  ⟨e,by
   simp_all,by simpa using g.leq,λD p E F L=>g.ok D p E (by simpa using F) L⟩
 refine .skip ?_ k0 b;rcases h with h|h<;>simp[execOp,h,M,j9]
end
end Go.bD
