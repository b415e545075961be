import Derived.WalkKit
import Derived.Deep.MidRow
import Derived.ChangeKeysEq
import Derived.LaidEql
import Derived.Laws.Cover3
import Derived.WalkSmall
import Derived.Lib.Builder
import Derived.Lib.UnsafeStr
import Derived.MapKept
import Derived.WideKeyRuns
set_option linter.all false
open Option renaming some->γ,none->η
open Bool renaming true->ζ,false->κ
open List renaming replicate->θ,range->ψ,length_append->Ζ,getElem?_eq_some_iff->Η,take_of_length_le->Λ,length->β
open BitVec renaming ofInt->ς
open UInt8 renaming ofNat->φ
open Prod renaming fst->Α
abbrev Ω:=List Int
abbrev ϊ:=List UInt8
abbrev ϋ:=List Nat
abbrev ό:=List UInt32
def ε{p:Prop}(h:p:=by omega):p:=h
def σ{p:Prop}(h:p:=by simp):p:=h
def Ι{p:Prop}(h:p:=by simp;omega):p:=h
def abV{p:Prop}(h:p:=by assumption):p:=h
def Μ{p:Prop}(h:p:=by decide):p:=h
def Φ{p:Prop}(h:p:=by kernel_rfl):p:=h
def abY{p:Prop}(h:p:=by rfl):p:=h
def χ:=@And.intro
def Δ:=@Option.some.inj
def Τ:=@List.getElem?_eq_getElem
def Ρ:=@Ζ
def Κ:=@Bool.and_eq_true
def a7x:=@Λ
def a7y:=@List.eq_nil_of_length_eq_zero
def a7z:=@List.length_take
def Ψ:=@List.mem_append
def a7B:=@Η
def a7C:=@List.mem_of_getElem?
def Θ:=@Ne.symm
def a7E:=@List.length_nil
def a7F:=@List.length_drop
def a7G:=@Option.some.injEq
def a7H:=@List.mem_singleton
def a7I:=@List.length_cons
def a7J:=@List.mem_of_mem_take
def Χ:=@Nat.le_refl
def a7L:=@List.all_eq_true
def a7M:=@List.mem_map
def a7N:=@Nat.mul_le_mul_right
def a7O:=@List.map_cons
def a7P:=@List.append_assoc
def a7Q:=@List.length_map
def a7R:=@List.flatMap_cons
def a7S:=@List.mem_cons
def a7T:=@List.nil_append
def a7U:=@List.mem_of_mem_drop
def a7V:=@List.getD_eq_getElem?_getD
def a7W:=@List.pairwise_cons
def a7X:=@Nat.zero_add
def a7Y:=@Nat.zero_le
def a7Z:=@List.getElem?_map
def a8a:=@Int.toNat_natCast
def a8b:=@List.getElem_mem
def a8c:=@List.take_length
def a8d:=@List.take_append_drop
def a8e:=@List.getElem_of_mem
def a8f:=@List.not_mem_nil
def a8g:=@List.drop_eq_getElem_cons
def a8h:=@List.takeWhile_append_dropWhile
def a8i:=@Option.isSome_iff_exists
def a8j:=@List.foldl_cons
def a8k:=@List.drop_eq_nil_of_le
def a8l:=@List.length_pos_iff
def a8m:=@Nat.mul_one
def a8n:=@Bool.not_true
def a8o:=@List.sum_cons
def a8p:=@List.drop_drop
def a8q:=@Bool.not_false
def a8r:=@List.map_append
def a8s:=@Array.getD_eq_getD_getElem?
def a8t:=@List.pairwise_append
def a8u:=@List.append_nil
def a8v:=@UInt8.toNat_inj
def a8w:=@Nat.le_trans
def a8x:=@Bool.false_eq_true
def a8y:=@List.getElem?_take_of_lt
def a8z:=@Option.map_some
def a8A:=@List.flatMap_append
def a8B:=@List.mem_range
def a8C:=@List.getD_cons_zero
def a8D:=@Nat.add_mul
def a8E:=@List.take_add_one
def a8F:=@Nat.lt_of_lt_of_le
def a8G:=@List.take_take
def a8H:=@Bool.false_and
def a8I:=@List.map_congr_left
def a8J:=@Bool.true_and
def a8K:=@List.cons_append
def a8L:=@Array.getElem?_eq_some_iff
def a8M:=@List.length_singleton
def a8N:=@List.set_eq_take_append_cons_drop
def a8O:=@List.takeWhile_cons
def a8P:=@Nat.min_eq_left
def a8Q:=@Prod.mk.injEq
def a8R:=@List.map_nil
def a8S:=@List.filter_append
def a8T:=@List.drop_take
def a8U:=@List.getD_cons_succ
def a8V:=@Bool.not_eq_true'
def a8W:=@List.pairwise_iff_getElem
def a8X:=@List.mem_cons_self
def a8Y:=@Bool.or_eq_true
def a8Z:=@List.take_succ_eq_append_getElem
def a9a:=@Nat.pow_le_pow_right
def a9b:=@List.mem_filter
def a9c:=@Nat.mod_eq_of_lt
def a9d:=@Nat.testBit_lt_two_pow
def a9e:=@Nat.shiftRight_eq_div_pow
def a9f:=@List.take_append_of_le_length
def a9g:=@Int.toNat_of_nonneg
def a9h:=@Array.getElem?_toList
def a9i:=@List.length_filter_le
def a9j:=@UInt8.toNat_ofNat'
def a9k:=@List.filter_cons_of_neg
def a9l:=@List.mem_cons_of_mem
def a9m:=@List.drop_append
def a9n:=@List.drop_of_length_le
def a9o:=@List.take_zero
def a9p:=@List.flatten_cons
def a9q:=@List.getElem?_append_left
def a9r:=@List.range_succ
def a9s:=@List.length_replicate
def a9t:=@Option.isSome_none
def a9u:=@Option.getD_some
def a9v:=@List.map_map
def a9w:=@Nat.mod_lt
def a9x:=@List.mem_append_left
def a9y:=@List.filter_cons_of_pos
def a9z:=@List.foldl_append
def a9A:=@Nat.add_zero
def a9B:=@Int.le_refl
def a9C:=@List.length_eq_one_iff
def a9D:=@List.flatMap_def
def a9E:=@List.perm_middle
def a9F:=@List.drop_zero
def a9G:=@List.mem_append_right
def a9H:=@List.getElem?_eq_none
def a9I:=@Array.getElem?_eq_getElem
def a9J:=@List.mem_or_eq_of_mem_set
def a9K:=@List.eraseIdx_eq_take_drop_succ
def a9L:=@Nat.min_self
def a9M:=@List.take_left'
def a9N:=@List.filter_nil
def a9O:=@List.drop_append_of_le_length
def a9P:=@Int.eq_ofNat_of_zero_le
def a9Q:=@List.getElem?_range
def a9R:=@List.dropWhile_cons
def a9S:=@Iff.rfl
def a9T:=@List.filter_cons
def a9U:=@Nat.sub_self
def a9V:=@Option.isSome_some
def a9W:=@Bool.eq_iff_iff
def a9X:=@List.cons.injEq
def a9Y:=@List.sum_append
def a9Z:=@Nat.eq_of_mul_eq_mul_right
def aa0:=@List.pairwise_map
def aa1:=@Nat.eq_of_testBit_eq
def aa2:=@List.foldl_nil
def aa3:=@Array.toList_map
def aa4:=@Nat.min_eq_right
def aa5:=@List.append_cons
def aa6:=@List.sum_nil
def aa7:=@List.replicate_succ
def aa8:=@List.drop_succ_cons
def aa9:=@List.length_zipWith
def aaa:=@List.take_succ_cons
def aab:=@List.filter_eq_self
def aac:=@Nat.add_sub_cancel_left
def aad:=@List.getElem?_cons_zero
def aae:=@List.getElem?_drop
def aaf:=@List.append_of_mem
def aag:=@Nat.xor_lt_two_pow
def aah:=@List.length_set
def aai:=@Option.map_eq_some_iff
def aaj:=@List.length_pos_of_mem
def aak:=@Nat.lt_trichotomy
def aal:=@List.take_left
def aam:=@Bool.false_xor
def aan:=@List.drop_left
def aao:=@List.perm_append_comm
def aap:=@List.take_length_add_append
def aaq:=@List.drop_length_add_append
def aar:=@List.getElem?_of_mem
def aas:=@List.flatMap_nil
def aat:=@List.any_eq_true
def aau:=@List.getElem?_append_right
def aav:=@Array.getElem?_append_left
def aaw:=@List.exists_cons_of_ne_nil
def aax:=@Nat.one_mul
def aay:=@Nat.div_add_mod
def aaz:=@List.drop_left'
def aaA:=@Int.cast_ofNat_Int
def aaB:=@List.Pairwise.imp_of_mem
def aaC:=@List.mem_of_mem_eraseIdx
def aaD:=@List.getElem?_cons_succ
def aaE:=@Bool.and_true
def aaF:=@List.map_drop
def aaG:=@List.map_take
def aaH:=@Array.toList_inj
def aaI:=@List.take_append
def aaJ:=@Option.getD_none
def aaK:=@Bool.and_eq_false_iff
def aaL:=@Array.getElem?_setIfInBounds_ne
def aaM:=@Nat.zero_mul
def aaN:=@Array.eq_empty_of_size_eq_zero
def aaO:=@Nat.add_comm
def aaP:=@Nat.testBit_xor
def aaQ:=@List.getElem?_append
def aaR:=@Nat.shiftLeft_add_eq_or_of_lt
def aaS:=@Array.length_toList
def aaT:=@List.mem_map_of_mem
def aaU:=@Option.map_map
def aaV:=@Bool.and_false
def aaW:=@Nat.mul_le_mul
def aaX:=@List.mem_filterMap
def aaY:=@Array.extract_eq_self_of_le
def aaZ:=@Nat.add_assoc
def ab0:=@Nat.testBit_two_pow_add_gt
def ab1:=@Option.ne_none_iff_exists'
def ab2:=@List.cons.inj
def ab3:=@List.ext_getElem?
def ab4:=@List.cons_eq_cons
def ab5:=@Option.isNone_iff_eq_none
def ab6:=@Int.not_lt
def ab7:=@List.mem_flatten
def ab8:=@List.isEmpty_iff
def ab9:=@Nat.shiftLeft_eq
def aba:=@Int.zero_add
def abb:=@Nat.mul_comm
def abc:=@List.ext_getElem
def abd:=@BitVec.toNat_xor
def abe:=@Nat.div_eq_of_lt
def abf:=@Int.sub_zero
def abg:=@Nat.dvd_refl
def abh:=@Nat.le_mul_of_pos_right
def abi:=@List.append_inj
def abj:=@Nat.div_le_self
def abk:=@List.Perm.trans
def abl:=@Nat.div_one
def abm:=@BitVec.isLt
def abn:=@List.range_succ_eq_map
def abo:=@Nat.le_mul_of_pos_left
def abp:=@List.getElem?_set_self
def abq:=@Nat.dvd_add
def abr:=@List.modify_zero_cons
def abt:=@List.modify_succ_cons
def abu:=@Array.getElem?_append
def abv:=@List.take_succ
def abw:=@Nat.add_sub_add_right
def abx:=@List.singleton_append
def aby:=@Array.ext'
def abz:=@Array.getElem?_range
def abA:=@Bool.or_eq_false_iff
def abB:=@List.take_nil
def abC:=@Bool.false_or
def abD:=@Array.toList_zipIdx
def abE:=@Nat.mul_le_mul_left
def abF:=@Nat.testBit_two_pow
def abG:=@List.drop_set_of_lt
def abH:=@Nat.le_of_eq
def abI:=@Nat.succ_mul
def abJ:=@Nat.pow_succ
def abK:=@Nat.succ_pos
def abL:=@List.all_map
def abM:=@Nat.lt_or_ge
def abN:=@Nat.dvd_zero
def abO:=@Nat.pow_zero
def abP:=@Nat.mod_one
def abQ:=@Prod.mk.inj
def abR:=@Nat.pow_one
namespace Go.bw
open Go
inductive Own where
 |any
 |nil
 |zero
 |buf (g cap:Nat)
inductive R where
 |v (x:Value)
 |ptr (l off:Nat)
 |c4 (cs:List R)
 |J (xs:List R) (o:Own)
 |bC (l off len cap k:Nat)
 |ar (l n cap k:Nat)
 |agg (cs:List R)
 |aJ (a:List R)
 |iface (t:TypeId) (x:R)
 |bG (f:Nat) (pre cap:List R)
 |gr (l:Nat)
abbrev ύ:=List R
def R.cells:R->ύ
 |.agg cs=>cs
 |.aJ _=>[]
 |a=>[a]
def R.one:R->Bool
 |.agg _=>κ
 |.aJ _=>κ
 |_=>ζ
def flat(a:ύ):ύ:=a.flatMap R.cells
abbrev bf:=Nat->Nat->Option Value
def Own.ok(a:Own)(b c d:Nat):Prop:=
 match a with
 |.any=>True
 |.buf f h=>f=b/\c=0/\h=d
 |_=>False
def Own.mw(a:Own)(b:Option Addr)(c:Nat):Prop:=
 match a with
 |.any=>True
 |.nil=>b=η
 |.zero=>c=0
 |.buf _ _=>False
inductive aW(p:bf):Value->R->Prop
 |v (x:Value) (h:x.oneCell'=ζ):aW p x (.v x)
 |ptr (l off:Nat):aW p (.pointer (γ ⟨l,off,η⟩)) (.ptr l off)
 |c4 (b off:Nat) (C:Nat->Value) (cs:ύ) (E:∀c∈cs,c.one=ζ) (hH:∀d,d<β cs->p b (off+d)=γ (C d))
   (D:∀d r,cs[d]?=γ r->aW p (C d) r):aW p (.pointer (γ ⟨b,off,η⟩)) (.c4 cs)
 |dk (a:Option Addr) (cap:Nat) (o:Own) (bQ:a=η->cap=0) (L:o.mw a cap):aW p (.slice a 0 cap) (.J [] o)
 |J (b off len cap k:Nat) (C:Nat->Value) (xs:ύ) (o:Own) (hk:0<k) (hlen:len=β xs) (F:len<=cap) (P:∀e∈xs,β e.cells=k)
   (E:∀c∈flat xs,c.one=ζ) (hH:∀d,d<len*k->p b (off+d)=γ (C d)) (D:∀d r,(flat xs)[d]?=γ r->aW p (C d) r) (L:o.ok b off cap):
   aW p (.slice (γ ⟨b,off,η⟩) len cap) (.J xs o)
 |bC (l off len cap k:Nat) (hk:0<k) (F:len<=cap):aW p (.slice (γ ⟨l,off,η⟩) len cap) (.bC l off len cap k)
 |ar (l n cap k:Nat) (hk:0<k) (F:n<=cap):aW p (.slice (γ ⟨l,0,η⟩) n cap) (.ar l n cap k)
 |agg (z:Array Value) (cs:ύ) (E:∀c∈cs,c.one=ζ) (G:z.size=β cs) (D:∀d r,cs[d]?=γ r->aW p (z.getD d undef) r):aW p (.agg z) (.agg cs)
 |aJ (z:Array Value) (cs:ύ) (G:z.size=β cs) (D:∀d r,cs[d]?=γ r->aW p (z.getD d undef) r):aW p (.tuple z) (.aJ cs)
 |iface (t:TypeId) (x:Value) (y:R) (h:aW p x y):aW p (.iface t x) (.iface t y)
 |bG (f:Nat) (ws z:Array Value) (cR cs:ύ) (hw:ws.size=β cR) (S:∀d r,cR[d]?=γ r->aW p (ws.getD d undef) r) (G:z.size=β cs) (D:∀d r,cs[d]?=γ r->aW p (z.getD d undef) r):aW p (.func (.func f) ws z) (.bG f cR cs)
 |gr (l:Nat):aW p (.map (γ l)) (.gr l)
def bp(f:bf)(a:Array Value)(b:ύ):Prop:=a.size=β b/\∀c d,b[c]?=γ d->aW f (a.getD c undef) d
def bf.le(c d:bf):Prop:=∀a b v,c a b=γ v->d a b=γ v
theorem bf.le.refl(a:bf):a.le a:=λ_ _ _ b=>b
theorem bf.le.trans{a b c:bf}(h:a.le b)(k:b.le c):a.le c:=λd f v o=>k d f v (h d f v o)
variable{e8:Value}
def aW.mono{D E:bf}(F:D.le E){a:R}(o:aW D e8 a):aW E e8 a:=by
 induction o with
 |v e8 o=>exact .v e8 o
 |ptr b off=>exact .ptr b off
 |c4 p off r cs c hH _ ih=>exact .c4 p off r cs c (λx y=>F _ _ _ (hH x y)) ih
 |dk a cap z bQ C=>exact .dk a cap z bQ C
 |J p off len cap d r xs z hk hlen f G c hH _ C ih=>exact .J p off len cap d r xs z hk hlen f G c (λx y=>F _ _ _ (hH x y)) ih C
 |bC b off len cap d hk f=>exact .bC b off len cap d hk f
 |ar b L cap d hk f=>exact .ar b L cap d hk f
 |agg h cs c k _ ih=>exact .agg h cs c k ih
 |aJ h cs k _ ih=>exact .aJ h cs k ih
 |iface P e8 S _ ih=>exact .iface P e8 S ih
 |bG T ws h cR cs hw _ k _ V ih=>exact .bG T ws h cR cs hw V k ih
 |gr b=>exact .gr b
def bp.mono{a b:bf}(h:a.le b){c:Array Value}{d:ύ}(f:bp a c d):bp b c d:=⟨f.1,λk o p=>(f.2 k o p).mono h⟩
variable{s b8:R}{v:bf}
def aW.oA(a:aW v e8 s)(b:s.one=ζ):e8.oneCell'=true:=by cases a<;>first|assumption|rfl|(simp[R.one]at b)
theorem aW.undef(a:bf):aW a Go.undef (.aJ []):=.aJ #[] [] rfl (λc d b=>by simp at b)
theorem aW.cells{k:bf}{b:Value}{f:R}(o:aW k b f)(C:0<β f.cells):bp k b.cells f.cells/\∀h∈f.cells,h.one=true:=by
 have p:=o;cases o with
 |agg r cs D x y=>trivial
 |aJ r cs x y=>trivial
 |v b E=>
  refine⟨⟨?_,?_⟩,by intro h c;simp[R.cells]at c;subst c;rfl⟩
  .cases b<;>simp_all [Value.cells,R.cells,Value.oneCell']
  .intro d z a
   match d,a with
   |0,a=>simp[R.cells]at a;subst a;cases b<;>simp_all [Value.cells,Value.oneCell']
   |d+1,a=>trivial
 |_=>
  refine⟨⟨rfl,?_⟩,by intro h c;simp[R.cells]at c;subst c;rfl⟩;intro d z a
  match d,a with
  |0,a=>simp[R.cells]at a;subst a;exact p
  |d+1,a=>simp[R.cells]at a
inductive bq where
 |cells (cs:ύ)
 |ro (cs:ύ)
 |buf (k n cap:Nat)
 |it (t:ByteArray) (pos:Nat)
 |mp (es:List (R×R×Nat)) (clock:Nat)
 |wT (m:Option Nat) (since:Nat) (seen:ϋ) (a:Nat)
 |py (T:TypeId) (cs:ύ)
 |gu (cs:ύ)
abbrev U:=Nat->Option bq
def U.set(b:U)(c:Nat)(d:bq):U:=λa=>if a=c then γ d else b a
def U.del(b:U)(c:Nat):U:=λa=>if a=c then η else b a
def U.emp:U:=λ_=>η
def U.sub(c d:U):Prop:=∀a b,c a=γ b->d a=γ b
def sm(c:bf)(a:MapEntry)(b:R×R×Nat):Prop:=aW c a.key b.1/\aW c a.val b.2.1/\a.born=b.2.2
def oB(h:bf)(a:Array MapEntry)(b:List (R×R×Nat)):Prop:=a.size=β b/\∀(c:Nat)(d:MapEntry)(f:R×R×Nat),a[c]?=γ d->b[c]?=γ f->sm h d f
def oB.mono{k o:bf}(p:k.le o){r:Array MapEntry}{x:List (R×R×Nat)}(a:oB k r x):oB o r x:=
 ⟨a.1,λb c d f h=>⟨(a.2 b c d f h).1.mono p,(a.2 b c d f h).2.1.mono p,(a.2 b c d f h).2.2⟩⟩
def lE(d:bf)(f:World)(b:Nat):bq->Prop
 |.cells cs=>(∀h∈cs,h.one=ζ)/\∃a T,f.heap[b]?=γ (.cells a T (0,0))/\bp d a cs/\∀c,d b c=η
 |.ro cs=>(∀h∈cs,h.one=ζ)/\∃a T r,f.heap[b]?=γ (.cells a T r)/\bp d a cs/\∀c,c<a.size->d b c=γ (a.getD c undef)
 |.buf k o cap=>0<k/\o<=cap/\cap<=maxLen/\∃a T,f.heap[b]?=γ (.cells a T (0,0))/\a.size=cap*k/\∀c,o*k<=c->d b c=η
 |.it x pos=>f.heap[b]?=γ (.stringIter x pos)
 |.mp us clock=>∃p,f.heap[b]?=γ (.map p clock)/\oB d p us
 |.wT y since seen z=>f.heap[b]?=γ (.mapIter y since seen.toArray z)
 |.gu cs=>(∀h∈cs,h.one=ζ)/\∃a T,f.heap[b]?=γ (.cells a T (a.size,a.size+1))/\bp d a cs/\∀c,d b c=η
 |.py T cs=>(∀h∈cs,h.one=ζ)/\∃a,f.heap[b]?=γ (.cells a T (0,0))/\bp d a cs/\∀c,d b c=η
structure Holds(a:bf)(c:U)(w:World):Prop where
 ro:∀b o v,a b o=γ v->w.cell? ⟨b,o,η⟩=γ v
 dN:∀l o,c l=γ o->lE a w l o
structure Step(h:bf)(c:U)(w:World)(f:bf)(d:U)(a:World):Prop where
 holds:Holds f d a
 le:h.le f
 os:a.os=w.os
 tape:a.tape=w.tape
 output:a.output=w.output/\w.drawn<=a.drawn
 size:w.heap.size<=a.heap.size
 block:∀b,b<w.heap.size->c b=η->a.heap[b]?=w.heap[b]?
 eD:∀b,d b≠η->c b≠η\/w.heap.size<=b
 ns:∀b o,f b o≠η->h b o≠η\/c b≠η\/w.heap.size<=b
 jZ:∀b cs,b<w.heap.size->c b=γ (.ro cs)->a.heap[b]?=w.heap[b]? /\(d b=η\/∃k,d b=γ (.ro k))
theorem Step.refl{b:bf}{c:U}{d:World}(a:Holds b c d):Step b c d b c d:=
 ⟨a,.refl b,rfl,rfl,⟨rfl,Χ _⟩,Χ _,λ_ _ _=>rfl,λ_ a=>.inl a,λ_ _ a=>.inl a,λ_ _ _ a=>⟨rfl,.inr ⟨_,a⟩⟩⟩
theorem Step.trans{z C D:bf}{E k p:U}{F G L:World}(b:Step z E F C k G)(c:Step C k G D p L):Step z E F D p L where
 holds:=c.holds
 le:=b.le.trans c.le
 os:=c.os.trans b.os
 tape:=c.tape.trans b.tape
 output:=⟨c.output.1.trans b.output.1,a8w b.output.2 c.output.2⟩
 size:=a8w b.size c.size
 block:=λa f r=>by
  have x:k a=none:=by
   cases d:k a with
   |none=>rfl
   |some o=>
     rcases b.eD a (by simp[d])with y|y
     .trivial
     .omega
  rw[c.block a (a8F f b.size) x,b.block a f r]
 eD:=λa f=>by
  rcases c.eD a f with d|d
  .exact b.eD a d
  .exact .inr (a8w b.size d)
 ns:=λa o f=>by
  rcases c.ns a o f with d|d|d
  .exact b.ns a o d
  .exact .inr (b.eD a d)
  .exact .inr (.inr (a8w b.size d))
 jZ:=λa S f r=>by
  obtain⟨x,h⟩:=b.jZ a S f r;have P:=a8F f b.size;rcases h with h|⟨T,h⟩
  .refine⟨by rw[c.block a P h,x],.inl ?_⟩;cases d:p a with
   |none=>rfl
   |some o=>
     rcases c.eD a (by simp[d])with y|y
     .trivial
     .omega
  .obtain⟨V,W⟩:=c.jZ a T P h;simp_all
variable{g w h7:U}{e i t I b3 e5:Nat}{m j4:World}
def Holds.lt{a:bf}(b:Holds a g m){v:Value}(c:a e i=γ v):e<m.heap.size:=
 World.block_lt_of_cell? m _ (b.ro e i v c)
def Holds.nt{a:bf}(c:Holds a g m)(b:Nat):a m.heap.size b=none:=by
 cases d:a m.heap.size b with
 |none=>rfl
 |some v=>have:=c.lt d;omega
variable{b0:bq}
theorem lE.lt(a:lE v m e b0):e<m.heap.size:=by
 cases b0 with
 |cells cs=>obtain⟨_,c,T,b,_⟩:=a;grind
 |ro cs=>obtain⟨_,c,T,d,b,_⟩:=a;grind
 |buf f h cap=>obtain⟨_,_,_,c,T,b,_⟩:=a;grind
 |it k pos=>exact(a8L.1 a).1
 |mp us clock=>obtain⟨o,b,_⟩:=a;grind
 |wT p since seen r=>exact(a8L.1 a).1
 |py T cs=>obtain⟨_,c,b,_⟩:=a;grind
 |gu cs=>obtain⟨_,c,T,b,_⟩:=a;grind
def Holds.eD{a:bf}(b:Holds a g m):g m.heap.size=none:=by
 cases c:g m.heap.size with
 |none=>rfl
 |some v=>have:=(b.dN _ _ c).lt;omega
theorem lE.kept{r:bf}(k:lE v j4 e b0)(p:v.le r)(o:m.heap[e]?=j4.heap[e]?)(G:∀a,r e a≠η->v e a≠η):lE r m e b0:=by
 have x:∀a,v e a=η->r e a=none:=λa y=>by
  grind
 cases b0 with
 |cells cs=>obtain⟨c,d,T,b,f,h⟩:=k;exact⟨c,d,T,by rw[o];exact b,f.mono p,λa=>x a (h a)⟩
 |ro cs=>obtain⟨c,d,T,z,b,f,h⟩:=k;exact⟨c,d,T,z,by rw[o];exact b,f.mono p,λa y=>p _ _ _ (h a y)⟩
 |buf L P cap=>obtain⟨c,C,D,d,T,b,f,h⟩:=k;exact⟨c,C,D,d,T,by rw[o];exact b,f,λa y=>x a (h a y)⟩
 |it S pos=>exact by show m.heap[e]?= _;rw[o];exact k
 |mp us clock=>obtain⟨E,b,F⟩:=k;exact⟨E,by rw[o];exact b,F.mono p⟩
 |wT V since seen W=>exact by show m.heap[e]?= _;rw[o];exact k
 |py T cs=>obtain⟨c,d,b,f,h⟩:=k;exact⟨c,d,by rw[o];exact b,f.mono p,λa=>x a (h a)⟩
 |gu cs=>obtain⟨c,d,T,b,f,h⟩:=k;exact⟨c,d,T,by rw[o];exact b,f.mono p,λa=>x a (h a)⟩
def Holds.drop(a:Holds v g m)(d:w.sub g):Holds v w m:=⟨a.ro,λb c f=>a.dN b c (d b c f)⟩
theorem Step.drop{k o:bf}{p r c:U}{x y:World}(a:Step k p x o r y)(d:c.sub r):Step k p x o c y where
 holds:=a.holds.drop d
 le:=a.le
 os:=a.os
 tape:=a.tape
 output:=a.output
 size:=a.size
 block:=a.block
 eD:=λb z=>a.eD b (by
  cases f:c b with
  |none=>trivial
  |some h=>simp[d b h f])
 ns:=a.ns
 jZ:=λb C z f=>by
  obtain⟨D,F⟩:=a.jZ b C z f;refine⟨D,?_⟩;cases E:c b with
  |none=>simp
  |some h=>have G:=d b h E;simp_all
def Holds.drew{a:bf}{b:U}{c:World}(d:Holds a b c):Holds a b c.drew:=⟨d.ro,λf h k=>by
 have:=d.dN f h k;trivial⟩
def Step.drew{b:bf}{c:U}{d:World}(a:Holds b c d):Step b c d b c d.drew:=
 ⟨a.drew,.refl b,rfl,rfl,⟨rfl,Nat.le_succ _⟩,Χ _,λ_ _ _=>rfl,λ_ a=>.inl a,λ_ _ a=>.inl a,λ_ _ _ a=>⟨rfl,.inr ⟨_,a⟩⟩⟩
def up(b:R->U->Prop):R->U->Prop:=λv c=>∃a,a.sub c/\b v a
def ik(r:Program)(x:FuncId)(y:ύ)(h:U)(z C:R->U->Prop):Prop:=
 ∀(k:Array Value)(d:World)(f:bf),bp f k y->Holds f h d->
  Calls r x k d λo p=>(∃v a b c,o=.returned v/\Step f h d b c p/\aW b v a/\z a c)\/
   (∃v a b c,o=.panicked [{v,recovered:=κ}]/\Step f h d b c p/\aW b v a/\C a c)
theorem ik.mono{c:Program}{d:FuncId}{f:ύ}{h:U}{k o p r:R->U->Prop}(x:ik c d f h k p)(F:∀a b,k a b->o a b)(G:∀a b,p a b->r a b):ik c d f h o r:=
 λy z C D E=>(x y z C D E).mono λ_ _ L=>by
  grind
def AC(o:Program)(p:FuncId)(r:ύ)(c:U)(x:R->U->Prop):Prop:=
 ∀(d:Array Value)(a:World)(b:bf),bp b d r->Holds b c a->
  Calls o p d a λy z=>∃v f h k,y=.returned v/\Step b c a h k z/\aW h v f/\x f k
variable{u b2:R -> U -> Prop}{b9:FuncId}{j B b7:ύ}{q:Program}
def AC.p(a:AC q b9 j g u):ik q b9 j g u b2:=
 λb c d f h=>(a b c d f h).mono λ_ _ k=>.inl k
def ik.Ju(b:ik q b9 j g u (up λ_ _=>False)):AC q b9 j g u:=
 λc d f h k=>(b c d f h k).mono λ_ _ a=>by
  rcases a with a|⟨v,o,p,r,x,y,z,_,_,C⟩
  .exact a
  .trivial
def AC.mono{c:Program}{d:FuncId}{f:ύ}{h:U}{k o:R->U->Prop}(p:AC c d f h k)(r:∀a b,k a b->o a b):AC c d f h o:=
 λx y z C D=>(p x y z C D).mono λ_ _ ⟨v,a,E,b,F,G,L,P⟩=>⟨v,a,E,b,F,G,L,r _ _ P⟩
def Shift(h:ύ)(c:U)(k:ύ)(o:U):Prop:=
 ∀(d:Array Value)(a:World)(b:bf),bp b d h->Holds b c a->∃f,bp f d k/\Step b c a f o a
def AC.pre(d:AC q b9 B g u)(f:Shift j w B g):AC q b9 j w u:=
 λa b h k o=>by
  obtain⟨p,r,c⟩:=f a b h k o;exact(d a b p r c.holds).mono λ_ _ ⟨v,x,y,g,z,C,D,E⟩=>⟨v,x,y,g,z,c.trans C,D,E⟩
def U.oC(b c:U):Prop:=∀a,b a=η\/c a=η
def U.join(b c:U):U:=λa=>(b a).or (c a)
def U.nu(a:g e=γ b0):(g.join w) e=γ b0:=by simp[U.join,a]
def U.oD(a:g e=η):(g.join w) e=w e:=by simp[U.join,a]
def Step.frame{y:bf}{t:U}(c:Step v g m y w j4)(z:g.oC t)(G:Holds v (g.join t) m):
  Step v (g.join t) m y (w.join t) j4/\w.oC t:=by
 have C:∀b d,t b=γ d->g b=η/\lE v m b d:=λb d p=>by
  have a:=(z b).resolve_right (by simp[p]);exact⟨a,G.dN b d (by rw[U.oD a];exact p)⟩
 have D:w.oC t:=λb=>by
  cases p:t b with
  |none=>simp
  |some d=>
   left;obtain⟨x,k⟩:=C b d p;cases a:w b with
   |none=>rfl
   |some E=>
     rcases c.eD b (by simp[a])with o|o
     .trivial
     .have:=k.lt;omega
 refine⟨⟨⟨c.holds.ro,λb d p=>?_⟩,c.le,c.os,c.tape,c.output,c.size,λf r a=>?_,λf r=>?_,λf d r=>?_,λf F r a=>?_⟩,D⟩
 .cases a:w b with
  |some E=>rw[U.nu a]at p;obtain rfl:=Δ p;exact c.holds.dN b E a
  |none=>
   rw[U.oD a]at p;obtain⟨x,k⟩:=C b d p;refine k.kept c.le (c.block b k.lt x) λL P=>?_;rcases c.ns b L P with o|o|o
   .exact o
   .trivial
   .have:=k.lt;omega
 .exact c.block f r (by
   cases h:g f with
   |none=>rfl
   |some d=>rw[U.nu h]at a;cases a)
 .cases a:w f with
  |some d=>
   rcases c.eD f (by simp[a])with o|o
   .left;cases h:g f with
    |none=>trivial
    |some d=>simp[U.nu h]
   .omega
  |none=>
   rw[U.oD a]at r;left;cases h:g f with
   |some d=>simp[U.nu h]
   |none=>rw[U.oD h];exact r
 .rcases c.ns f d r with o|o|o
  .exact .inl o
  .right;left;cases h:g f with
   |none=>trivial
   |some d=>simp[U.nu h]
  .omega
 .cases h:g f with
  |some d=>
   rw[U.nu h]at a;obtain rfl:=Δ a;obtain⟨x,k⟩:=c.jZ f F r h;refine⟨x,?_⟩;rcases k with k|⟨S,k⟩
   .rw[U.oD k];left;exact(z f).resolve_left (by simp[h])
   .exact .inr ⟨S,U.nu k⟩
  |none=>rw[U.oD h]at a;refine⟨c.block f r h,.inr ⟨F,?_⟩⟩;rw[U.oD ((D f).resolve_right (by simp[a]))];exact a
def U.Bi(a b:U):a.sub (a.join b):=λ_ _ c=>U.nu c
def AC.frame{f:Program}{h:FuncId}{k:ύ}{b t:U}{o:R->U->Prop}(x:AC f h k b o)(p:b.oC t):
  AC f h k (b.join t) λc y=>∃a,o c a/\a.oC t/\y=a.join t:=
 λz C D E d=>(x z C D E (d.drop (U.Bi b t))).mono λ_ _ ⟨v,c,F,a,G,r,L,P⟩=>
  ⟨v,c,F,a.join t,G,(r.frame p d).1,L,a,P,(r.frame p d).2,rfl⟩
def ik.frame{x:Program}{y:FuncId}{z:ύ}{c t:U}{C D:R->U->Prop}(E:ik x y z c C (up D))(h:c.oC t):
  ik x y z (c.join t) (λb F=>∃a,C b a/\a.oC t/\F=a.join t) (up D):=
 λG L P S d=>(E G L P S (d.drop (U.Bi c t))).mono λ_ _ T=>by
  rcases T with⟨v,b,k,a,o,f,p,r⟩|⟨v,b,k,a,o,f,p,V,W,r⟩
  .exact .inl ⟨v,b,k,a.join t,o,(f.frame h d).1,p,a,r,(f.frame h d).2,rfl⟩
  .exact .inr ⟨v,b,k,a.join t,o,(f.frame h d).1,p,V,λe g i=>U.nu (W e g i),r⟩
theorem qF(a:World)(c:Obj)(b:Nat)(d:b≠a.heap.size):(a.alloc c).heap[b]?=a.heap[b]? :=by show(a.heap.push c)[b]?= _;grind
theorem U.ah(c:U)(a:Nat)(b:bq):(c.set a b) a=γ b:=by simp[U.set]
theorem U.al(a:U)(b:bq)(c:e≠i):(a.set i b) e=a e:=by simp[U.set,c]
theorem U.iI(b:U)(a:Nat):(b.del a) a=none:=by simp[U.del]
theorem U.eX(a:U)(b:e≠i):(a.del i) e=a e:=by simp[U.del,b]
def bf.ext(c:bf)(d f:Nat)(h:Array Value):bf:=λb a=>if b=d/\a<f then h[a]? else c b a
theorem bf.pz(d:bf)(a b:Nat)(c:Array Value)(f:e<b):(d.ext a b c) a e=c[e]? :=by simp[bf.ext,f]
theorem bf.pA(a:bf)(b c:Nat)(d:Array Value)(f:¬(e=b/\i<c)):(a.ext b c d) e i=a e i:=by simp[bf.ext,f]
theorem Step.write{f:bf}{T:Nat×Nat}(z:Holds f g m)(c o:Nat)(k:Array Value)(V:TypeId)(r:U)
  (W:j4.os=m.os) (e:j4.tape=m.tape) (x:(j4.output,j4.drawn)=(m.output,m.drawn)) (i:m.heap.size<=j4.heap.size)
  (j:j4.heap[c]?=γ (.cells k V T)) (C:∀a,a<m.heap.size->a≠c->j4.heap[a]?=m.heap[a]?)
  (B:c=m.heap.size\/(g c≠η/\∀D,g c≠γ (.ro D)))
  (H:o<=k.size) (l:∀b v,f c b=γ v->k[b]?=γ v)
  (n:∀h b,h≠c->r h=γ b->g h=γ b)
  (q:∀b,r c=γ b->lE (f.ext c o k) j4 c b):Step f g m (f.ext c o k) r j4:=by
 have E:f.le (f.ext c o k):=λa b v p=>by
  by_cases d:a=c/\b<o
  .obtain⟨rfl,s⟩:=d;rw[bf.pz _ _ _ _ s];exact l b v p
  .rw[bf.pA _ _ _ _ d];exact p
 have F:∀a,a≠c->∀y,(f.ext c o k) a y=f a y:=λa d y=>bf.pA _ _ _ _ (λt=>d t.1);have x:j4.output=m.output/\m.drawn<=j4.drawn:=⟨congrArg Α x,abH (congrArg Prod.snd x).symm⟩;refine⟨⟨λa b v p=>?_,λh b G=>?_⟩,E,W,e,x,i,λa d u=>?_,λa d=>?_,λa b d=>?_,λa D d u=>?_⟩
 .by_cases d:a=c
  .subst d;simp only[World.cell?,j,a9t,a8x,if_false];grind[bf.pz,bf.pA]
  .rw[F a d]at p;have:=z.ro a b v p;have w:=z.lt p;rw[<-this];exact World.cell?_of_block (C a w d)
 .by_cases d:h=c
  .subst d;exact q b G
  .have L:=z.dN h b (n h b d G);exact L.kept E (C h L.lt d) (λy P=>by rw[F h d]at P;exact P)
 grind
 .by_cases S:a=c;grind
  .left;cases A:r a with
   |none=>trivial
   |some b=>simp_all
 grind
 .have S:a≠c:=by grind
  refine⟨C a d S,?_⟩;cases A:r a with
  |none=>simp
  |some b=>simp_all
def bf.qG(a:bf)(b:Nat)(c:Array Value):a.ext b 0 c=a:=by funext d f;simp[bf.ext]
def Step.new{b:bf}(f:Holds b g m)(a:Array Value)(c:TypeId)(d:ύ)(r:∀x∈d,x.one=ζ)(y:bp b a d):
  Step b g m b (g.set m.heap.size (.cells d)) (m.alloc (.cells a c)):=by
 have:=Step.write (j4:=m.alloc (.cells a c)) f m.heap.size 0 a c (g.set m.heap.size (.cells d)) rfl rfl rfl σ (heap_alloc_new m _) (λz _ C=>qF m _ z C) (.inl rfl)
  (a7Y _) (λh v k=>by rw[f.nt]at k;cases k) (λE h D o=>by rw[U.al _ _ D]at o;exact o)
  (λh p=>by
   rw[U.ah]at p;obtain rfl:=Δ p;rw[bf.qG];exact⟨r,a,c,heap_alloc_new m _,y,f.nt⟩)
 rwa[bf.qG]at this
def putAt(a:ύ)(b:Nat)(c:ύ):ύ:=a.take b++c++a.drop (b+β c)
theorem eY(a:ύ)(b:Nat)(c:ύ)(d:b+β c<=β a):(putAt a b c).length=β a:=by simp[putAt];omega
def dm(a:Array Value)(b:Nat)(c:List Value):Array Value:=(a.toList.take b++c++a.toList.drop (b+β c)).toArray
theorem bp.ee{c:Array Value}:bp v c j↔β c.toList=β j/\∀(a:Nat)(f:Value)(b:R),c.toList[a]?=γ f->j[a]?=γ b->aW v f b:=by
 constructor
 .rintro⟨k,h⟩;refine⟨by trivial,λa f b p d=>?_⟩;have:=h a b d;simp_all
 .rintro⟨k,h⟩;refine⟨by trivial,λa b d=>?_⟩;have r:=(a7B.1 d).1;have o:a<c.size:=by simp at k;omega
  refine h a _ b ?_ d;simp[o]
theorem bp.putAt{a:bf}{f:Array Value}{b c:ύ}{h:Array Value}(k:bp a f b)(o:bp a h c)(d:Nat)(p:d+β c<=β b):
  bp a (dm f d h.toList) (putAt b d c):=by
 grind[bp.ee,dm,Go.bw.putAt,Ζ,List.length_take,List.length_drop,List.append_assoc,List.getElem?_append_left]
theorem ud(c:∀a∈j,a.one=ζ)(d:∀a∈B,a.one=ζ)(b:Nat):∀a∈putAt j b B,a.one=true:=by grind[putAt,List.mem_of_mem_take,List.mem_of_mem_drop]
theorem bp.oA{h:bf}{c:Array Value}{a:ύ}(k:bp h c a)(o:∀p∈a,p.one=ζ):∀b∈c.toList,b.oneCell'=true:=by
 intro b r;obtain⟨d,x⟩:=aar r;obtain⟨z,y⟩:=bp.ee.1 k;have f:d<β a:=by grind
 exact(y d b _ x (Τ f)).oA (o _ (a8b f))
def Step.store{d:bf}(k:Holds d g m)(o:g e=γ (.cells j))(b:Nat)(c:ύ)(f:Array Value)(D:bp d f c)
  (E:∀F∈c,F.one=ζ) (G:b+β c<=β j):
  ∃a T,m.heap[e]?=γ (.cells a T (0,0))/\a.size=β j/\Step d g m d (g.set e (.cells (putAt j b c))) (m.setRow e (dm a b f.toList)):=by
 obtain⟨L,a,T,h,p,r⟩:=k.dN e _ o;refine⟨a,T,h,p.1,?_⟩;have:=Step.write (j4:=m.setRow e (dm a b f.toList)) k e 0 (dm a b f.toList) T (g.set e (.cells (putAt j b c))) rfl rfl rfl σ (setRow_heap m e a _ T _ h)
  (λP _ S=>setRow_other m e P _ S) (.inr (by simp[o])) (a7Y _) (λx v y=>by rw[r]at y;cases y) (λW x V z=>by rw[U.al _ _ V]at z;exact z)
  (λx C=>by
   rw[U.ah]at C;obtain rfl:=Δ C;rw[bf.qG];exact⟨ud L E b,_,T,setRow_heap m e a _ T _ h,p.putAt D b G,r⟩)
 rwa[bf.qG]at this
def Jv(a:Array Value)(b:Nat)(c:List Value)(d:b+β c<=a.size):(dm a b c).size=a.size:=by simp[dm];omega
def Step.Jw{f:bf}(o:Holds f g m)(p:g e=γ (.gu j))(b:Nat)(c:ύ)(d:Array Value)(r:bp f d c)
  (F:∀G∈c,G.one=ζ) (x:b+β c<=β j):
  ∃a T,m.heap[e]?=γ (.cells a T (a.size,a.size+1))/\a.size=β j/\Step f g m f (g.set e (.gu (putAt j b c))) (m.setRow e (dm a b d.toList)):=by
 obtain⟨L,a,T,h,k,y⟩:=o.dN e _ p;refine⟨a,T,h,k.1,?_⟩;have P:β d.toList=β c:=by have:=r.1;trivial
 have S:=Jv _ _ _ (by rw[P,k.1];exact x);have:=Step.write (j4:=m.setRow e (dm a b d.toList)) o e 0 (dm a b d.toList) T (g.set e (.gu (putAt j b c))) rfl rfl rfl σ (setRow_heap m e a _ T _ h)
  (λV _ W=>setRow_other m e V _ W) (.inr (by simp[p])) (a7Y _) (λz v C=>by rw[y]at C;cases C) (λl z i D=>by rw[U.al _ _ i]at D;exact D)
  (λz E=>by
   rw[U.ah]at E;obtain rfl:=Δ E;rw[bf.qG];exact⟨ud L F b,_,T,by rw[S];exact setRow_heap m e a _ T _ h,k.putAt r b x,y⟩)
 rwa[bf.qG]at this
theorem Step.wU{b:bf}(k:Holds b g m)(c:g e=γ (.cells j)\/(∃T,g e=γ (.py T j))\/g e=γ (.gu j)):
  ∃C,Step b g m C (g.set e (.ro j)) m:=by
 obtain⟨o,p,a,T,z,d,r,x⟩:(g e≠η/\∀j,g e≠γ (.ro j))/\(∀D∈j,D.one=ζ)/\∃a T z,m.heap[e]?=γ (.cells a T z)/\bp b a j/\∀f,b e f=none:=by
  rcases c with c|⟨T,c⟩|c
  .obtain⟨p,a,T,d,r,x⟩:=k.dN e _ c;simp_all
  .obtain⟨p,a,d,r,x⟩:=k.dN e _ c;simp_all
  .obtain⟨p,a,T,d,r,x⟩:=k.dN e _ c;simp_all
 refine⟨b.ext e a.size a,Step.write k e a.size a T _ rfl rfl rfl (Χ _) d (λ_ _ _=>rfl) (.inr o) (Χ _) (λf v y=>by rw[x]at y;cases y)
  (λG f E o=>by rw[U.al _ _ E]at o;exact o) (λf h=>?_)⟩
 rw[U.ah]at h;obtain rfl:=Δ h;have F:b.le (b.ext e a.size a):=λL f v y=>by
  rw[bf.pA _ _ _ _ (λd=>by simp_all)];exact y
 refine⟨p,a,T,z,d,r.mono F,λf h=>?_⟩;rw[bf.pz _ _ _ _ h];simp[h]
def Step.freeze(a:Holds v g m)(b:g e=γ (.cells j)):∃c,Step v g m c (g.set e (.ro j)) m:=Step.wU a (.inl b)
theorem bp.sub{c:Array Value}(d:bp v c j)(a b:Nat)(f:a+b<=β j):bp v (c.extract a (a+b)) ((j.drop a).take b):=by grind[bp.ee,Η,List.getElem?_take_of_lt,Array.getElem?_extract]
theorem Step.other{d:bf}(o:Holds d g m)(c:Nat)(ob:bq)
  (D:j4.os=m.os) (E:j4.tape=m.tape) (h:(j4.output,j4.drawn)=(m.output,m.drawn)) (F:m.heap.size<=j4.heap.size)
  (x:∀a,a<m.heap.size->a≠c->j4.heap[a]?=m.heap[a]?) (T:c=m.heap.size\/(g c≠η/\∀y,g c≠γ (.ro y))) (G:∀f,d c f=η)
  (V:lE d j4 c ob):Step d g m d (g.set c ob) j4:=by
 have h:j4.output=m.output/\m.drawn<=j4.drawn:=⟨congrArg Α h,abH (congrArg Prod.snd h).symm⟩;refine⟨⟨λa f v k=>?_,λp f r=>?_⟩,.refl d,D,E,h,F,λa b L=>?_,λa b=>?_,λa f b=>.inl b,λa y b L=>?_⟩
 .have b:a≠c:=by rintro rfl;rw[G]at k;cases k
  have P:=o.lt k;rw[<-o.ro a f v k];exact World.cell?_of_block (x a P b)
 .by_cases b:p=c
  .subst b;rw[U.ah]at r;simp_all
  .rw[U.al _ _ b]at r;have z:=o.dN p f r;exact z.kept (.refl d) (x p z.lt b) (λW S=>S)
 grind
 .by_cases C:a=c;grind
  .rw[U.al _ _ C]at b;exact .inl b
 .have C:a≠c:=by grind
  grind[U.al]
def Step.Bj(b:Holds v g m)(c:Obj)(a:bq)(d:lE v (m.alloc c) m.heap.size a):Step v g m v (g.set m.heap.size a) (m.alloc c):=
 .other b _ a rfl rfl rfl σ (λf _ h=>qF m _ f h) (.inl rfl) b.nt d
theorem Holds.Jx{a:bf}(d:Holds a g m){c:Obj}(p:m.heap[e]?=γ c)(r:∀f h k,c≠.cells f h k)(b:Nat):a e b=none:=by
 cases o:a e b with
 |none=>rfl
 |some v=>exfalso;have:=d.ro e b v o;grind[World.cell?,Option.some.inj]
def Step.Bk(a:Holds v g m){b c:Obj}(d:g e≠η/\∀f,g e≠γ (.ro f))(h:m.heap[e]?=γ b)(k:∀o p r,b≠.cells o p r)(x:lE v {m with heap:=m.heap.setIfInBounds e c} e b0):
  Step v g m v (g.set e b0) {m with heap:=m.heap.setIfInBounds e c}:=
 .other a e b0 rfl rfl rfl σ (λz _ y=>aaL (Θ y)) (.inr d) (a.Jx h k) x
theorem ue(x:Program)(d b:Nat)(p:TypeId)(h:Nat×Nat):∀(k:List Value)(a:Nat)(c:Array Value)(f:World),f.heap[d]?=γ (.cells c p h)->(∀o,o<c.size->¬(h.1<=o/\o<h.2))->b+a+β k<=c.size->(∀v∈k,v.oneCell'=ζ)->
  (storeCells ⟨d,b,η⟩ k a).run x f=.ok () (f.setRow d (c.toList.take (b+a)++k++c.toList.drop (b+a+β k)).toArray)
 |[],a,c,f,r,_,_,_=>by
  simp only[storeCells,a8u,a7E,a9A,a8d,Array.toArray_toList];rw[setRow_self f d c p h r];rfl
 |v::rest,a,c,f,r,z,y,h1=>by
  have G:b+a<c.size:=by simp at y;omega
  have L:(⟨d,b,η⟩:Addr).add a=⟨d,b+a,η⟩:=by unfold Addr.add;simp
  have P:f.cell? ⟨d,b+a,η⟩=γ c[b+a]:=by simp[World.cell?,r]
  have S:f.frozen? ⟨d,b+a,η⟩=false:=by grind[World.frozen?,Bool.and_eq_false_iff,decide_eq_false_iff_not]
  have C:(store ((⟨d,b,η⟩:Addr).add a) v).run x f=.ok () (f.setRow d (c.setIfInBounds (b+a) v)):=by grind[run_store,setCell_eq_setRow]
  have ih:=ue x d b p h rest (a+1) (c.setIfInBounds (b+a) v) (f.setRow d (c.setIfInBounds (b+a) v)) (setRow_heap f d c _ p _ r) (λo D=>z o (by simpa using D)) (by simp at y|-;omega) (λE F=>h1 E (by simp[F]));simp only[storeCells,Sem.run_bind,C,Result.andThen_ok,ih,setRow_setRow];congr 3;have T:=list_seg_step c.toList (b+a) v rest (by simp at y|-;omega);grind
def wV(b:Nat):∀a,a<b->¬(((0,0):Nat×Nat).1<=a/\a<((0,0):Nat×Nat).2):=λa _=>by simp
section
structure Src(a:Program)(w:World)(k m:Nat)(x:Value)(b:List Value):Prop where
 len:(Builtin.lenOf x).run a w=.ok m w
 cells:(Builtin.firstCells k m x).run a w=.ok b.toArray w
 Jy:(Builtin.firstCells k m x).run a w.drew=.ok b.toArray w.drew
 size:β b=m*k
def Bl(b:World)(y z P C:TypeId)(c:TypeInfo)(S:q.underlying y=γ (.slice C))(o:TypeDesc)(T:q.underlying z=γ o)(V:(∃D,o=.slice D)\/o=.string)
  (W:q.info? C=γ c) (d a p:Nat) (h:Array Value) (E:TypeId) (k:Nat×Nat) (e:b.heap[d]?=γ (.cells h E k)) (g:∀r,r<h.size->¬(k.1<=r/\r<k.2))
  (x:Nat) (F:Value) (f:List Value) (G:Src q b c.size x F f) (i:∀j∈f,j.oneCell'=ζ) (l:a+x<=p) (t:a*c.size+β f<=h.size):
  (Builtin.append_ #[y,z] P #[.slice (γ ⟨d,0,η⟩) a p,F]).run q b=.ok (.slice (γ ⟨d,0,η⟩) (a+x) p) (b.setRow d (dm h (a*c.size) f)):=by
 have L:=ue q d (a*c.size) E k f 0 h b e g (by trivial) i;simp only[a9A]at L;have m:(storeCells ⟨d,a*c.size,η⟩ f).run q b=.ok () (b.setRow d (dm h (a*c.size) f)):=by rw[L];rfl
 have n:=λs=>run_underlying T s;rcases V with⟨D,rfl⟩|rfl<;>simp[Builtin.append_,run_underlying S,n,sizeOf,typeInfo,W,G.len,l,G.cells,Addr.add_lit,m]
def Jz(b:World)(z C S D:TypeId)(c:TypeInfo)(T:q.underlying z=γ (.slice D))(p:TypeDesc)(V:q.underlying C=γ p)(W:(∃E,p=.slice E)\/p=.string)
  (e:q.info? D=γ c) (d f a r:Nat) (k:Array Value) (F:TypeId) (o:Nat×Nat) (g:b.heap[d]?=γ (.cells k F o)) (i:∀x,x<k.size->¬(o.1<=x/\x<o.2))
  (y:Nat) (G:Value) (h:List Value) (L:Src q b c.size y G h) (j:∀l∈h,l.oneCell'=ζ) (m:a+y<=r) (u:f+a*c.size+β h<=k.size):
  (Builtin.append_ #[z,C] S #[.slice (γ ⟨d,f,η⟩) a r,G]).run q b=.ok (.slice (γ ⟨d,f,η⟩) (a+y) r) (b.setRow d (dm k (f+a*c.size) h)):=by
 have P:=ue q d (f+a*c.size) F o h 0 k b g i (by trivial) j;simp only[a9A]at P;have n:(storeCells ⟨d,f+a*c.size,η⟩ h).run q b=.ok () (b.setRow d (dm k (f+a*c.size) h)):=by rw[P];rfl
 have s:=λt=>run_underlying V t;rcases W with⟨E,rfl⟩|rfl<;>simp[Builtin.append_,run_underlying T,s,sizeOf,typeInfo,e,L.len,m,L.cells,Addr.add_mid,n]
theorem qH(c:World)(p r F h:TypeId)(d:TypeInfo)(x:Value)(G:q.underlying p=γ (.slice h))(k:TypeDesc)(L:q.underlying r=γ k)(P:(∃y,k=.slice y)\/k=.string)
  (S:q.info? h=γ d) (T:d.zero=γ x) (z:Option Addr) (a f:Nat) (o:List Value) (n:β o=a*d.size)
  (V:(Builtin.firstCells d.size a (.slice z a f)).run q c.drew=.ok o.toArray c.drew)
  (b:Nat) (C:Value) (D:List Value) (E:Src q c d.size b C D) (W:f<a+b) (s:((a+b:Nat):Int)<=9223372036854775807) (e:(a+b)*d.bytes<=140737488355328):
  (Builtin.append_ #[p,r] F #[.slice z a f,C]).run q c=
   .ok (.slice (γ ⟨c.heap.size,0,η⟩) (a+b) (grownCap c (a+b) f h))
    (c.drew.alloc (.cells (o.toArray++D.toArray++Builtin.zeroCells x.cells (grownCap c (a+b) f h -(a+b))) h)):=by
 have g:¬(a+b<=f):=ε;have i:¬(9223372036854775807<((a)+(b:Int))):=ε;have j:¬(281474976710656<Builtin.nextslicecap (a+b) f*d.bytes):=by have:=growslice_fits W e;omega
 have l:=λm=>run_underlying L m;rcases P with⟨y,rfl⟩|rfl
 all_goals
  simp[Builtin.append_,run_underlying G,l,sizeOf,typeInfo,zeroValue,S,T,E.len,g,i,j,Question.forced,E.Jy,V,newRow,grownCap];grind
end
abbrev Fr:=Nat->R
def mx(b:Fr)(c:Nat)(d:R):Fr:=λa=>if a=c then d else b a
def ds(b:Fr)(a:Option Nat)(c:R):Fr:=
 match a with
 |some a=>mx b a c
 |none=>b
def dt:Value->R
 |.slice η 0 0=>.J [] .nil
 |a=>.v a
def ofConst:Value->R
 |.agg cs=>.agg (cs.toList.map dt)
 |.tuple cs=>.aJ (cs.toList.map dt)
 |a=>dt a
def sn:Value->Bool
 |.agg cs=>cs.toList.all (·.oneCell')
 |.tuple cs=>cs.toList.all (·.oneCell')
 |a=>a.oneCell'
def aQ:Operand->Bool
 |.const v=>sn v
 |_=>ζ
def ai(a:Fr):Operand->R
 |.tmp b=>a b
 |.const v=>ofConst v
 |.global c=>.ptr c 0
 |.func d=>.bG d [] []
theorem aW.dt(b:bf)(a:Value)(c:a.oneCell'=ζ):aW b a (dt a):=by
 unfold Go.bw.dt;split
 .exact .dk _ _ _ (λ_=>rfl) rfl
 .exact .v a c
def oE(a:Value):(dt a).one=true:=by unfold dt;split<;>rfl
def bp.pB(c:bf)(b:Array Value)(h:∀a∈b.toList,a.oneCell'=ζ):bp c b (b.toList.map Go.bw.dt):=by
 refine bp.ee.2 ⟨σ,λo a k d f=>?_⟩;rw[a7Z,d]at f;obtain rfl:dt a=k:=by simpa using f
 exact aW.dt c a (h a (a7C d))
def aW.ofConst(d:bf)(a:Value)(c:sn a=ζ):aW d a (ofConst a):=by
 cases a<;>first
  |exact aW.dt d _ c
  |skip
 case agg b=>
  have f:∀a∈b.toList,a.oneCell'=true:=by simp only[sn,a7L]at c;exact c
  obtain⟨h,k⟩:=bp.pB d b f;refine .agg b _ (λp o=>?_) h k;obtain⟨a,_,rfl⟩:=a7M.1 o;exact oE a
 case tuple b=>
  have f:∀a∈b.toList,a.oneCell'=true:=by simp only[sn,a7L]at c;exact c
  obtain⟨h,k⟩:=bp.pB d b f;exact .aJ b _ h k
def bI(b:bf)(c:Act)(d:Fr):Prop:=∀a,aW b (c.tmps.getD a undef) (d a)
def bI.ai{c:bf}{d:Act}{f:Fr}(a:bI c d f)(b:Operand)(h:aQ b=ζ):aW c (d.eval b) (ai f b):=by
 cases b with
 |tmp k=>exact a k
 |const v=>exact aW.ofConst c v h
 |global o=>exact .ptr o 0
 |func p=>exact .bG p #[] #[] [] [] rfl (λr x a=>by simp at a) rfl (λr x a=>by simp at a)
def bI.mono{b c:bf}{a:Act}{d:Fr}(f:bI b a d)(h:b.le c):bI c a d:=λk=>(f k).mono h
theorem bI.put{d:bf}{a:Act}{f:Fr}(h:bI d a f)(b:Option Nat)(p:∀c,b=γ c->c<a.tmps.size){v:Value}{k:R}(r:aW d v k):bI d (a.put b v) (ds f b k):=by
 cases b with
 |none=>exact h
 |some b=>
  intro c;have x:=p b rfl;by_cases o:c=b;simp_all [ds,mx,Act.put]
  .simp only[ds,mx,if_neg o,Act.put];rw[a8s,aaL (Θ o),<-a8s];exact h c
def aX(b:Bool)(c:Nat)(a:ύ):R:=if b then .agg (a.take c)else a.headD (.aJ [])
def U.read(a:U)(l:Nat):Option ύ:=
 match a l with
 |some (.cells cs)=>γ cs
 |some (.ro cs)=>γ cs
 |some (.py _ cs)=>γ cs
 |some (.gu cs)=>γ cs
 |_=>η
def eZ(a b:Nat)(c:ύ):ύ:=if a=1 then c.take b else(ψ b).map λd=>.agg ((c.drop (d*a)).take a)
def ka(d:BinOp)(a:IntKind)(c b:Int):Option Value:=
 match d with
 |.add=>γ (.int a (a.wrap (c+b)))
 |.sub=>γ (.int a (a.wrap (c - b)))
 |.mul=>γ (.int a (a.wrap (c*b)))
 |.quo=>if b=0 then η else γ (.int a (a.wrap (c.tdiv b)))
 |.rem=>if b=0 then η else γ (.int a (c.tmod b))
 |.and=>γ (.int a (a.wrap (ς a.bits c&&&ς a.bits b).toNat))
 |.or=>γ (.int a (a.wrap (ς a.bits c|||ς a.bits b).toNat))
 |.xor=>γ (.int a (a.wrap (ς a.bits c^^^ς a.bits b).toNat))
 |.andNot=>γ (.int a (a.wrap (ς a.bits c&&& ~~~(ς a.bits b)).toNat))
 |.eql=>γ (.bool (decide (c=b)))
 |.neq=>γ (.bool (decide (c≠b)))
 |.lss=>γ (.bool (decide (c<b)))
 |.leq=>γ (.bool (decide (c<=b)))
 |.gtr=>γ (.bool (decide (b<c)))
 |.geq=>γ (.bool (decide (b<=c)))
 |_=>η
def oF(d:BinOp)(a:IntKind)(c b:Int):Option Value:=
 if b<0 then η else
 match d with
 |.shl=>γ (.int a (a.wrap (c*2^(min b.toNat a.bits))))
 |.shr=>γ (.int a (c.fdiv (2^(min b.toNat a.bits))))
 |_=>η
def gI:BinOp->Bool
 |.shl|.shr=>ζ
 |_=>κ
def qI(c:BinOp)(a b:ByteArray):Option Value:=
 match c with
 |.add=>if a.size+b.size<=9223372036854775807 then γ (.string (a++b))else η
 |.eql=>γ (.bool (a.toList==b.toList))
 |.neq=>γ (.bool (!(a.toList==b.toList)))
 |.lss=>γ (.bool (Op.bytesLess a.toList b.toList))
 |.leq=>γ (.bool (Op.bytesLess a.toList b.toList||a.toList==b.toList))
 |.gtr=>γ (.bool (!(Op.bytesLess a.toList b.toList||a.toList==b.toList)))
 |.geq=>γ (.bool (!(Op.bytesLess a.toList b.toList)))
 |_=>η
def bj(a:BinOp):Value->Value->Option Value
 |.int b c,.int f d=>if gI a then oF a b c d else if b=f then ka a b c d else η
 |.string h,.string k=>qI a h k
 |_,_=>η
def oG(b:UnOp):Value->Option Value
 |.bool d=>match b with|.not=>γ (.bool !d)|_=>η
 |.int a c=>match b with
  |.neg=>γ (.int a (a.wrap (0 - c)))
  |.xor=>γ (.int a (a.wrap (ς a.bits (if a.signed then -1 else a.max)^^^ς a.bits c).toNat))
  |_=>η
 |_=>η
noncomputable def peq (a b:R):Bool:=@decide (a=b) (Classical.propDecidable _)
def so(a b:R):peq a b=ζ↔a=b:=by simp[peq]
inductive bZ where
 |int (k:IntKind)
 |bool
 |str
 deriving DecidableEq
def bZ.fit:bZ->Value->Prop
 |.int a,.int b _=>a=b
 |.bool,.bool _=>True
 |.str,.string _=>True
 |_,_=>False
def bZ.sq:bZ->R->Prop
 |.int a,.v (.int b _)=>a=b
 |.bool,.v (.bool _)=>True
 |.str,.v (.string _)=>True
 |_,_=>False
def dO:List (Nat×bZ)->ύ->Prop
 |[],cs=>cs=[]
 |(a,b)::c,cs=>a<=β cs/\(∀d∈cs.take a,b.sq d)/\dO c (cs.drop a)
noncomputable def dT:List (R×R×Nat)->R->Nat->Option (Nat×R)
 |[],_,_=>η
 |a::us,b,c=>if peq b a.1 then γ (c,a.2.1)else dT us b (c+1)
noncomputable def lF (a:List (R×R×Nat)) (c v:R) (b:Nat):List (R×R×Nat)×Nat:=
 match dT a c 0 with
 |some (f,_)=>(a.modify f λd=>(d.1,v,d.2.2),b)
 |none=>(a++[(c,v,b)],b+1)
def JA(a:List (R×R×Nat))(b:Int):Option Nat:=a.findIdx? λc=>(c.2.2:Int)==b
def sr(b:List (Nat×bZ))(c:List (R×R×Nat)):Prop:=∀d∈c,∃a,d.1=.agg a/\dO b a
inductive cg where
 |dP (x:Operand)
 |pick (c a b:Operand)
 |alloc (T:TypeId) (zero:ύ)
 |box (T:TypeId) (x:Operand)
 |lG (T:TypeId) (x:Operand)
 |load (agg:Bool) (n:Nat) (x:Operand)
 |store (n:Nat) (x y:Operand)
 |qJ (x:Operand)
 |lH (off:Nat) (x:Operand)
 |qK (k len:Nat) (x i:Operand)
 |dZ (k:Nat) (x i:Operand)
 |qL (agg:Bool) (k len:Nat) (x i:Operand)
 |my (x i:Operand)
 |mz (zero:ύ) (parts:List (Nat×Nat×Operand))
 |kH (k:Nat) (xs:List Operand)
 |pC (k:Nat) (x:Operand) (az aE:Option Operand)
 |mA (k n:Nat) (x:Operand) (az aE:Option Operand) (ro:Bool)
 |kI (k n:Nat) (x:Operand) (az aE:Option Operand)
 |len (x:Operand)
 |qM (x:Operand)
 |pD (x:Operand)
 |ss (agg:Bool) (off n:Nat) (x:Operand)
 |bin (op:BinOp) (x y:Operand)
 |eqv (neg:Bool) (bF:List (Nat×bZ)) (x y:Operand)
 |qN (neg:Bool) (x y:Operand)
 |nv (neg:Bool) (x y:Operand)
 |qO (neg:Bool) (x y:Operand)
 |un (op:UnOp) (x:Operand)
 |jk (k:IntKind) (x:Operand)
 |app (k bytes:Nat) (x y:Operand)
 |gv (fn:FuncId) (args:List Operand)
 |ext (x:Operand) (i:Nat)
 |mB (ho:Bool) (k:IntKind) (x y:Operand)
 |qP (x:Operand)
 |kJ (k bytes:Nat) (z:ύ) (x y:Operand)
 |nw (k:Nat) (x y:Operand)
 |nx (neg:Bool) (x:Operand)
 |kK (k:Nat) (xs:List Operand)
 |mC (k bytes:Nat) (x y:Operand)
 |su (x:Operand)
 |bG (fn:FuncId) (first cap:List Operand)
 |jl (x:Operand) (args:List Operand)
 |qQ (t:TypeId) (x:Operand)
 |ny (x:Operand)
 |kL (x:Operand)
 |nz (x:Operand)
 |kM
 |mD (ok:Bool) (rs:List (Nat×bZ)) (z:R) (x k:Operand)
 |mE (rs:List (Nat×bZ)) (x k v:Operand)
 |nA (x:Operand)
 |mF (k:Nat) (x:Operand) (az aE ho:Option Operand)
 |nB (k:Nat) (z:ύ) (x:Operand)
 |nC (k:Nat) (x y:Operand)
 |nD (k bytes:Nat) (z:ύ) (x y:Operand)
 |nE (x y:Operand)
 |pE (x y c:Operand)
def gw(a:Program)(b:FuncId):Bool:=
 match a.funcs[b]? with
 |some fn=>fn.body.isSome&&fn.name != "runtime.NumGoroutine"
 |none=>κ
structure Ctx where
 p:Program
 k:R->U->Prop
@[reducible] def Ctx.of(a:Program):Ctx:=⟨a,λ_ _=>False⟩
def kN(a:Fr)(b:ύ):List (Nat×Nat×Operand)->(ύ->Prop)->Prop
 |[],c=>c b
 |(off,ch,d)::f,c=>(ai a d).cells.length=ch/\off+ch<=β b/\kN a (putAt b off (ai a d).cells) f c
def av(a:UInt8):R:=.v (.int .u8 a.toNat)
def byteOf:R->Option UInt8
 |.v (.int .u8 a)=>if 0<=a/\a<256 then γ (φ a.toNat)else η
 |_=>η
def bytesOf:ύ->Option ϊ
 |[]=>γ []
 |a::b=>match byteOf a,bytesOf b with
  |some c,γ aN=>γ (c::aN)
  |_,_=>η
def JB(a:UInt8):byteOf (av a)=γ a:=by have c:=a.toNat_lt;have b:(0)<=(a.toNat:Int)/\(a.toNat:Int)<256:=ε;simp[byteOf,av,b]
def sv:∀a:ϊ,bytesOf (a.map av)=γ a
 |[]=>rfl
 |b::a=>by simp[bytesOf,JB,sv a]
def dF(b:Fr)(a:Option Operand)(c:Nat):Option Int:=
 match a with
 |none=>γ c
 |some a=>match ai b a with
  |.v (.int _ d)=>γ d
  |_=>η
def wW(a:Own)(b c:Option Operand):Own:=
 match b,c with
 |none,η=>a
 |_,_=>.any
def sw(h:Bool)(c a d f b:Nat):R:=if h=ζ then .bC c (a*b) (d - a) (f - a) b else .ar c d f b
def c8(h:U)(a:Nat)(k:R):Option (Nat×ύ):=
 match k with
 |.J c _=>if c.all (λo=>decide (β o.cells=a))=ζ then γ (β c,flat c)else η
 |.ar d b _ f=>match h.read d with
  |some cs=>if f=a/\b*a<=β cs then γ (b,cs.take (b*a))else η
  |none=>η
 |.bC d off b _ f=>match h.read d with
  |some cs=>if f=a/\off+b*a<=β cs then γ (b,(cs.drop off).take (b*a))else η
  |none=>η
 |_=>η
def nF(d:U)(b:Nat)(a:R):Option (Nat×ύ):=
 match a with
 |.v (.string c)=>if b=1 then γ (c.size,c.data.toList.map av)else η
 |a=>c8 d b a
def wX{a:Nat×ύ}(b:c8 g e s=γ a):nF g e s=γ a:=by
 unfold nF;split
 .trivial
 .exact b
def lI(a:U)(b:Nat):Bool:=
 match a b with
 |some (.cells _)=>ζ
 |some (.py _ _)=>ζ
 |_=>κ
def sx:R->Option R
 |.ar _ _ cap _=>γ (.v (.int .i64 cap))
 |.J [] .nil=>γ (.v (.int .i64 0))
 |_=>η
def sy(c:Fr)(f:Nat)(x:R)(h k o:Option Operand):Option R:=
 match x with
 |.ar p len cap r=>match dF c h 0,dF c k len,dF c o cap with
  |some a,γ d,γ b=>if r=f/\0<=a/\a<=d/\d<=b/\b<=cap then
    γ (if h.isSome=ζ then(if a<b then .bC p (a.toNat*f) (d.toNat - a.toNat) (b.toNat - a.toNat) f else .J [] .zero)else .ar p d.toNat b.toNat f)
   else η
  |_,_,_=>η
 |.bC p off len cap r=>match dF c h 0,dF c k len,dF c o cap with
  |some a,γ d,γ b=>if r=f/\0<=a/\a<=d/\d<=b/\b<=cap then
    γ (if a<b then .bC p (off+a.toNat*f) (d.toNat - a.toNat) (b.toNat - a.toNat) f else .J [] .zero)
   else η
  |_,_,_=>η
 |.J [] .nil=>match dF c h 0,dF c k 0,dF c o 0 with
  |some a,γ d,γ b=>if a=0/\d=0/\b=0 then γ (.J [] .nil)else η
  |_,_,_=>η
 |.J [] .zero=>match dF c h 0,dF c k 0,dF c o 0 with
  |some a,γ d,γ b=>if a=0/\d=0/\b=0 then γ (.J [] .zero)else η
  |_,_,_=>η
 |_=>η
def lJ(b:Nat)(f:ύ)(h:R)(a:U):Option U:=
 match h with
 |.bC c off d _ k=>match a c with
  |some (.cells cs)=>if k=b/\off+d*b<=β cs then γ (a.set c (.cells (putAt cs off (θ d f).flatten)))else η
  |_=>η
 |.J [] _=>γ a
 |_=>η
def mG(a:Nat)(o p:R)(c:U):Option (R×U):=
 match c8 c a p with
 |some (h,k)=>match o with
  |.bC d off b _ f=>match c d with
   |some (.cells cs)=>if f=a/\off+b*a<=β cs then γ (.v (.int .i64 (min h b:Nat)),c.set d (.cells (putAt cs off (k.take (b*a)))))else η
   |_=>η
  |.ar d b _ f=>match c d with
   |some (.cells cs)=>if f=a/\b*a<=β cs then γ (.v (.int .i64 (min h b:Nat)),c.set d (.cells (putAt cs 0 (k.take (b*a)))))else η
   |_=>η
  |.J [] _=>γ (.v (.int .i64 0),c)
  |_=>η
 |none=>η
def c5:R->Option Nat
 |.ar a _ _ _=>γ a
 |.bC a _ _ _ _=>γ a
 |_=>η
def kO(a:U)(b:Nat):Bool:=
 match a b with
 |some (.cells (_:: _))=>ζ
 |_=>κ
def lK(d f:R)(a:U):Option R:=
 match c5 d,c5 f with
 |some b,γ c=>if b≠c/\kO a b=ζ/\kO a c=ζ then γ (.v (.bool κ))else η
 |_,_=>η
def sz(d f h:R):Option R:=
 match d,f,h with
 |.v (.int .u64 b),.v (.int .u64 c),.v (.int .u64 a)=>if 0<=b/\0<=c/\0<=a/\a<=1 then γ (.aJ [.v (.int .u64 ((b+c+a)%18446744073709551616)),.v (.int .u64 ((b+c+a)/18446744073709551616))])else η
 |_,_,_=>η
def G(i:Ctx)(j:cg)(d:Fr)(a:U)(h:R->U->Prop):Prop:=
  match j with
  |.dP f=>h (ai d f) a
  |.pick l r z=>match ai d l with
    |.v (.bool L)=>h (if L then ai d r else ai d z) a
    |_=>False
  |.alloc _ zero=>∀k,a k=η->h (.ptr k 0) (a.set k (.cells zero))
  |.box _ f=>0<(ai d f).cells.length/\∀k,a k=η->h (.ptr k 0) (a.set k (.cells (ai d f).cells))
  |.lG _ f=>0<(ai d f).cells.length/\∀k,a k=η->h (.ptr k 0) (a.set k (.ro (ai d f).cells))
  |.load agg b f=>match ai d f with
    |.ptr k off=>match a.read k with
      |some o=>off+b<=β o/\h (aX agg b (o.drop off)) a
      |none=>False
    |.c4 o=>b<=β o/\h (aX agg b o) a
    |_=>False
  |.store b f y=>match ai d f with
    |.ptr k off=>match a k with
      |some (.cells o)=>(ai d y).cells.length=b/\off+b<=β o/\h (.aJ []) (a.set k (.cells (putAt o off (ai d y).cells)))
      |_=>False
    |_=>False
  |.qJ f=>match ai d f with
    |.ptr k off=>h (.ptr k off) a
    |.c4 o=>h (.c4 o) a
    |.bG b cR o=>h (.bG b cR o) a
    |_=>False
  |.lH off f=>match ai d f with
    |.ptr k P=>h (.ptr k (P+off)) a
    |.c4 o=>h (.c4 (o.drop off)) a
    |_=>False
  |.qK c len f W=>match ai d f,ai d W with
    |.ptr k P,.v (.int _ b)=>0<=b/\b<len/\h (.ptr k (P+b.toNat*c)) a
    |.c4 o,.v (.int _ b)=>0<=b/\b<len/\h (.c4 (o.drop (b.toNat*c))) a
    |_,_=>False
  |.dZ c f W=>match ai d f,ai d W with
    |.J xs _,.v (.int _ b)=>0<=b/\match xs[b.toNat]? with
      |some T=>β T.cells=c/\h (.c4 T.cells) a
      |none=>False
    |.bC k off len _ F,.v (.int _ b)=>F=c/\0<=b/\b<len/\h (.ptr k (off+b.toNat*c)) a
    |.ar k len _ F,.v (.int _ b)=>F=c/\0<=b/\b<len/\h (.ptr k (b.toNat*c)) a
    |_,_=>False
  |.qL agg c len f W=>match ai d f,ai d W with
    |.agg o,.v (.int _ b)=>0<=b/\b<len/\b.toNat*c+c<=β o/\h (aX agg c (o.drop (b.toNat*c))) a
    |_,_=>False
  |.my f W=>match ai d f,ai d W with
    |.v (.string L),.v (.int _ b)=>0<=b/\match L.data[b.toNat]? with
      |some z=>h (.v (.int .u8 z.toNat)) a
      |none=>False
    |_,_=>False
  |.mz zero parts=>kN d zero parts λo=>h (.agg o) a
  |.kH c xs=>(∀T∈xs.map (ai d),β T.cells=c)/\
      (if β xs=0 then h (.J [] .zero) a else∀x,a x=η->h (.J (xs.map (ai d)) (.buf x (β xs))) (a.set x (.buf c (β xs) (β xs))))
  |.pC c f az aE=>match ai d f with
    |.J xs P=>match dF d az 0,dF d aE (β xs) with
      |some r,γ z=>0<=r/\r<=z/\z<=β xs/\(∀T∈xs,β T.cells=c)/\h (.J ((xs.take z.toNat).drop r.toNat) (wW P az aE)) a
      |_,_=>False
    |.bC k off len C F=>match dF d az 0,dF d aE len with
      |some r,γ z=>F=c/\0<=r/\r<=z/\z<=len/\r<len/\h (.bC k (off+r.toNat*c) (z.toNat - r.toNat) (C - r.toNat) c) a
      |_,_=>False
    |.ar k len C F=>match dF d az 0,dF d aE len with
      |some r,γ z=>F=c/\0<=r/\r<=z/\z<=len/\(az.isSome=ζ->r<len)/\h (sw az.isSome k r.toNat z.toNat C c) a
      |_,_=>False
    |_=>False
  |.mA c b f az aE ro=>match ai d f with
    |.ptr k off=>match dF d az 0,dF d aE b with
      |some r,γ z=>0<=r/\r<=z/\z<=b/\match a.read k with
        |some o=>off+b*c<=β o/\
          (if ro then h (.J (eZ c (z.toNat - r.toNat) (o.drop (off+r.toNat*c))) .any) (a.set k (.ro o))else r<b/\h (.bC k (off+r.toNat*c) (z.toNat - r.toNat) (b - r.toNat) c) a)
        |none=>False
      |_,_=>False
    |_=>False
  |.kI c b f az aE=>match ai d f with
    |.ptr k off=>match dF d az 0,dF d aE b with
      |some r,γ z=>0<=r/\r<=z/\z<=b/\match a k with
        |some (.ro o)=>off+b*c<=β o/\h (.J (eZ c (z.toNat - r.toNat) (o.drop (off+r.toNat*c))) .any) a
        |_=>False
      |_,_=>False
    |_=>False
  |.len f=>match ai d f with
    |.J xs _=>h (.v (.int .i64 (β xs))) a
    |.bC _ _ b _ _=>h (.v (.int .i64 b)) a
    |.ar _ b _ _=>h (.v (.int .i64 b)) a
    |_=>False
  |.qM f=>match ai d f with
    |.v (.string L)=>h (.v (.int .i64 L.size)) a
    |_=>False
  |.pD f=>match ai d f with
    |.gr k=>match a k with
      |some (.mp us _)=>h (.v (.int .i64 (β us))) a
      |_=>False
    |_=>False
  |.ss agg off b f=>match ai d f with
    |.agg o=>off+b<=β o/\h (aX agg b (o.drop off)) a
    |_=>False
  |.bin j f y=>match ai d f,ai d y with
    |.v r,.v z=>match bj j r z with
      |some V=>h (.v V) a
      |none=>False
    |_,_=>False
  |.eqv neg bF f y=>match ai d f,ai d y with
    |.agg o,.agg cR=>dO bF o/\dO bF cR/\h (.v (.bool (xor neg (peq (.agg o) (.agg cR))))) a
    |_,_=>False
  |.qN neg f y=>match ai d f,ai d y with
    |.ptr _ _,.v (.pointer η)=>h (.v (.bool neg)) a
    |.c4 _,.v (.pointer η)=>h (.v (.bool neg)) a
    |.v (.pointer η),.v (.pointer η)=>h (.v (.bool (!neg))) a
    |_,_=>False
  |.qO neg f y=>match ai d f,ai d y with
    |.v (.bool r),.v (.bool z)=>h (.v (.bool (xor neg (r==z)))) a
    |_,_=>False
  |.nv neg f y=>match ai d f,ai d y with
    |.ptr _ _,.v (.pointer η)=>h (.v (.bool neg)) a
    |.v (.pointer η),.ptr _ _=>h (.v (.bool neg)) a
    |.v (.pointer η),.v (.pointer η)=>h (.v (.bool (!neg))) a
    |.ptr k P,.ptr q s=>(lI a k=ζ/\lI a q=ζ)/\h (.v (.bool (xor neg (decide (k=q/\P=s))))) a
    |_,_=>False
  |.un j f=>match ai d f with
    |.v r=>match oG j r with
      |some V=>h (.v V) a
      |none=>False
    |_=>False
  |.jk c f=>match ai d f with
    |.v (.int _ b)=>h (.v (.int c (c.wrap b))) a
    |_=>False
  |.app c bytes f y=>match ai d f,ai d y with
    |.J xs P,.J D _=>(∀T∈xs,β T.cells=c)/\(∀T∈D,β T.cells=c)/\(β xs+β D)*bytes<=140737488355328/\β xs+β D<=9223372036854775807/\
      match P with
      |.buf x l=>a x=γ (.buf c (β xs) l)/\∀g m,(g=x\/a g=η)->h (.J (xs++D) (.buf g m)) ((a.del x).set g (.buf c (β xs+β D) m))
      |.any=>False
      |_=>xs=[]/\(if D=[]then h (.J [] P) a else∀g m,a g=η->h (.J D (.buf g m)) (a.set g (.buf c (β D) m)))
    |_,_=>False
  |.gv fn args=>ik i.p fn (args.map (ai d)) a h (up i.k)
  |.ext f W=>match ai d f with
    |.aJ t=>match t[W]? with
      |some V=>h V a
      |none=>False
    |_=>False
  |.mB ho _ f y=>match ai d f,ai d y with
    |.v (.int c r),.v (.int F z)=>c=F/\h (.v (.int c (if ho then max r z else min r z))) a
    |_,_=>False
  |.qP f=>match ai d f with
    |.J xs _=>match bytesOf xs with
      |some k=>h (.v (.string ⟨k.toArray⟩)) a
      |none=>False
    |_=>False
  |.kJ c bytes e f y=>match ai d f,ai d y with
    |.v (.int _ b),.v (.int _ p)=>b=p/\0<=b/\b<=9223372036854775807/\b*bytes<=281474976710656/\∀x,a x=η->h (.ar x b.toNat b.toNat c) (a.set x (.cells (θ b.toNat e).flatten))
    |_,_=>False
  |.nw c f y=>match ai d f,ai d y with
    |.bC k off b _ F,.J D _=>F=c/\(∀T∈D,β T.cells=c)/\match a k with
      |some (.cells o)=>off+b*c<=β o/\h (.v (.int .i64 (min (β D) b))) (a.set k (.cells (putAt o off (flat (D.take b)))))
      |_=>False
    |.ar k b _ F,.J D _=>F=c/\(∀T∈D,β T.cells=c)/\match a k with
      |some (.cells o)=>b*c<=β o/\h (.v (.int .i64 (min (β D) b))) (a.set k (.cells (putAt o 0 (flat (D.take b)))))
      |_=>False
    |_,_=>False
  |.kK c xs=>(∀T∈xs.map (ai d),β T.cells=c)/\
      (if β xs=0 then h (.J [] .zero) a else∀x,a x=η->h (.ar x (β xs) (β xs) c) (a.set x (.cells (flat (xs.map (ai d))))))
  |.mC c bytes f y=>match nF a c (ai d y)with
    |some (p,D)=>match ai d f with
      |.J xs P=>xs=[]/\(P=.nil\/P=.zero)/\p*bytes<=140737488355328/\p<=9223372036854775807/\
        (if p=0 then h (.J [] P) a else∀x C S,a x=η->p<=C->C<=maxLen->β S=(C - p)*c->h (.ar x p C c) (a.set x (.cells (D++S))))
      |.ar k b C F=>match a k with
        |some (.cells o)=>F=c/\β o=C*c/\(b+p)*bytes<=140737488355328/\b+p<=9223372036854775807/\
          (if b+p<=C then h (.ar k (b+p) C c) (a.set k (.cells (putAt o (b*c) D)))
           else∀x E S,a x=η->b+p<=E->E<=maxLen->β S=(E -(b+p))*c->h (.ar x (b+p) E c) (a.set x (.cells (o.take (b*c)++D++S))))
        |some (.gu o)=>F=c/\β o=C*c/\(b+p)*bytes<=140737488355328/\b+p<=9223372036854775807/\
          (if b+p<=C then h (.ar k (b+p) C c) (a.set k (.gu (putAt o (b*c) D)))
           else∀x E S,a x=η->b+p<=E->E<=maxLen->β S=(E -(b+p))*c->h (.ar x (b+p) E c) (a.set x (.cells (o.take (b*c)++D++S))))
        |_=>False
      |.bC k off b C F=>match a k with
        |some (.cells o)=>F=c/\off+C*c<=β o/\(b+p)*bytes<=140737488355328/\b+p<=9223372036854775807/\
          (if b+p<=C then h (.bC k off (b+p) C c) (a.set k (.cells (putAt o (off+b*c) D)))
           else∀x E S,a x=η->b+p<=E->E<=maxLen->β S=(E -(b+p))*c->h (.ar x (b+p) E c) (a.set x (.cells ((o.drop off).take (b*c)++D++S))))
        |_=>False
      |_=>False
    |none=>False
  |.su f=>match ai d f with
    |.v (.string L)=>h (.J (L.data.toList.map av) .any) a
    |_=>False
  |.bG fn first C=>h (.bG fn (first.map (ai d)) (C.map (ai d))) a
  |.jl f args=>match ai d f with
    |.bG fn cR o=>gw i.p fn=ζ/\ik i.p fn (cR++args.map (ai d)++o) a h (up i.k)
    |_=>False
  |.qQ L f=>h (.iface L (ai d f)) a
  |.ny f=>match ai d f with
    |.iface L y=>up i.k (.iface L y) a
    |_=>False
  |.kL f=>match ai d f with
    |.v (.string L)=>∀k,a k=η->h (.ptr k 0) (a.set k (.it L 0))
    |_=>False
  |.nz f=>match ai d f with
    |.ptr k off=>off=0/\match a k with
      |some (.it L pos)=>if pos<L.size then h (.aJ [.v (.bool ζ),.v (.int .i64 pos),.v (.int .i32 (Utf8.decode L pos).1)]) (a.set k (.it L (pos+(Utf8.decode L pos).2)))else h (.aJ [.v (.bool κ)]) a
      |_=>False
    |_=>False
  |.kM=>∀k,a k=η->h (.gr k) (a.set k (.mp [] 0))
  |.mD ok rs e f c=>match ai d f,ai d c with
    |.gr k,.agg o=>match a k with
      |some (.mp us _)=>dO rs o/\sr rs us/\(match dT us (.agg o) 0 with
        |some (_,v)=>h (if ok then .aJ [v,.v (.bool ζ)]else v) a
        |none=>h (if ok then .aJ [e,.v (.bool κ)]else e) a)
      |_=>False
    |_,_=>False
  |.mE rs f c v=>match ai d f,ai d c with
    |.gr k,.agg o=>match a k with
      |some (.mp us clock)=>dO rs o/\sr rs us/\h (.aJ []) (a.set k (.mp (lF us (.agg o) (ai d v) clock).1 (lF us (.agg o) (ai d v) clock).2))
      |_=>False
    |_,_=>False
  |.nx neg f=>match ai d f with
    |.J xs P=>match P with
      |.nil=>h (.v (.bool (!neg))) a
      |.buf _ _=>h (.v (.bool neg)) a
      |_=>(xs=[]->h (.v (.bool (!neg))) a)/\h (.v (.bool neg)) a
    |.ar _ _ _ _=>h (.v (.bool neg)) a
    |_=>False
  |.nA f=>match sx (ai d f)with
    |some V=>h V a
    |none=>False
  |.mF c f az aE ho=>match sy d c (ai d f) az aE ho with
    |some V=>h V a
    |none=>False
  |.nB c e f=>match lJ c e (ai d f) a with
    |some n=>h (.aJ []) n
    |none=>False
  |.nC c f y=>match mG c (ai d f) (ai d y) a with
    |some (V,n)=>h V n
    |none=>False
  |.nE f y=>match lK (ai d f) (ai d y) a with
    |some V=>h V a
    |none=>False
  |.pE f y l=>match sz (ai d f) (ai d y) (ai d l)with
    |some V=>h V a
    |none=>False
  |.nD c bytes e f y=>match ai d f,ai d y with
    |.ar k b C F,.v (.int .i64 p)=>match a.read k with
      |some o=>F=c/\β o=C*c/\0<=p/\C<b+p.toNat/\(b+p.toNat)*bytes<=140737488355328/\b+p.toNat<=9223372036854775807/\
        ∀x E S,a x=η->b+p.toNat<=E->E<=maxLen->β S=(E -(b+p.toNat))*c->h (.ar x (b+p.toNat) E c) (a.set x (.cells (o.take (b*c)++(θ p.toNat e).flatten++S)))
      |none=>False
    |.J xs P,.v (.int .i64 p)=>xs=[]/\P=.nil/\0<p/\p.toNat*bytes<=140737488355328/\p<=9223372036854775807/\
        ∀x E S,a x=η->p.toNat<=E->E<=maxLen->β S=(E - p.toNat)*c->h (.ar x p.toNat E c) (a.set x (.cells ((θ p.toNat e).flatten++S)))
    |_,_=>False
def wY{c:Fr}{d f:ύ->Prop}(h:∀k,d k->f k):∀(o:List (Nat×Nat×Operand))(b:ύ),kN c b o d->kN c b o f
 |[],b,a=>h _ a
 |(_,_,_)::p,_,a=>⟨a.1,a.2.1,wY h p _ a.2.2⟩
variable{e6:cg}{X:Ctx}{l:Fr}
theorem Bm(c:∀h k,u h k->b2 h k)(a:G X e6 l g u):G X e6 l g b2:=by
 cases e6<;>simp only[G]at a|-
 case gv D o=>exact a.mono c (λ_ _ a=>a)
 case nA b=>grind
 case mF=>grind
 case nB=>grind
 case nC=>grind
 case nE=>grind
 case pE=>grind
 case nD d bytes p b f=>
  grind
 case jl b o=>split at a;(exact⟨a.1,a.2.mono c (λ_ _ a=>a)⟩);trivial
 case ny=>exact a
 case kL=>grind
 case kM=>simp_all
 case mD E r p b d=>
  split at a
  case h_2=>omega
  grind
 case mE r b d v=>
  grind
 case nz b=>
  split at a
  case h_2=>omega
  grind
 case pick=>grind
 case mz F L=>exact wY (λ_ a=>c _ _ a) _ _ a
 case alloc=>simp_all
 case box=>simp_all
 case lG=>simp_all
 case kJ=>grind
 case mB=>grind
 case kI d x b y z=>
  (repeat' split at a)<;>first
   |exact a.elim
   |simp_all
   |exact a.2.2.2.elim
 case nw d b f=>
  grind
 case nx P b=>
  grind
 case kK=>grind
 case mC d bytes b f=>
  split at a
  case h_2=>omega
  split at a;grind;grind;grind
  .omega
 case kH=>grind
 case app d bytes b f=>
  grind
 case mA d x b y z S=>
  (repeat' split at a)<;>first
   |exact a.elim
   |simp_all
   |simp_all
   |exact a.2.2.2.elim
 case dZ d b C=>
  grind
 case my b C=>
  grind
 all_goals
  (repeat' split at a)<;>first
   |exact a.elim
   |exact c _ _ a
   |exact⟨a.1,c _ _ a.2⟩
   |exact⟨a.1,a.2.1,c _ _ a.2.2⟩
   |exact⟨a.1,a.2.1,a.2.2.1,c _ _ a.2.2.2⟩
   |exact⟨a.1,a.2.1,a.2.2.1,a.2.2.2.1,c _ _ a.2.2.2.2⟩
   |exact⟨a.1,a.2.1,a.2.2.1,a.2.2.2.1,a.2.2.2.2.1,c _ _ a.2.2.2.2.2⟩
def fV:List bZ->List Value->Prop
 |[],[]=>True
 |a::bF,b::xs=>a.fit b/\fV bF xs
 |_,_=>False
def qR(b:Program)(c:TypeId->Option (List bZ)):List Field->Nat->Option (List bZ)
 |[],_=>γ []
 |a::f,off=>
  if a.offset=off/\a.name≠ "_" then
   match c a.type,qR b c f (off+b.cellsOf a.type)with
   |some d,γ h=>if b.cellsOf a.type=β d/\(b.info? a.type).isSome then γ (d++h)else η
   |_,_=>η
  else η
def flatK(a:Program):Nat->TypeId->Option (List bZ)
 |0,_=>η
 |c+1,d=>
  match a.underlying d with
  |some (.int h)=>γ [.int h]
  |some .bool=>γ [.bool]
  |some .string=>γ [.str]
  |some (.array k b)=>match flatK a c b with
   |some f=>if a.cellsOf b=β f/\(a.info? b).isSome then γ (θ k f).flatten else η
   |none=>η
  |some (.struct o)=>if a.stoodInHeld d then η else qR a (flatK a c) o.toList 0
  |_=>η
theorem oH:∀ {a:List bZ}{b:List Value},fV a b->β b=β a
 |[],[],_=>rfl
 |_:: _,_:: _,c=>by simp[oH c.2]
def pF:∀ {a d:List bZ}{b:List Value},fV (a++d) b->fV a (b.take (β a))/\fV d (b.drop (β a))
 |[],_,_,c=>by simp[fV];trivial
 |_:: _,_,[],c=>by trivial
 |_:: _,_,_:: _,c=>by
  obtain⟨h,f⟩:=c;obtain⟨k,o⟩:=pF f;trivial
variable{e4:IntKind}{b6:TypeId}
section
def qS(d:Program)(x:Nat)(f:TypeId)(a:List bZ):Prop:=
 ∀(y:Nat)(b:World)(h k:Array Value)(c:Nat),fV a ((h.toList.drop c).take (β a))->fV a ((k.toList.drop c).take (β a))->
  ∃o p r,(part f h c).run d b=.ok o b/\(part f k c).run d b=.ok p b/\(Op.equalIn (y+x) f o p).run d b=.ok r b/\
   (r=ζ↔(h.toList.drop c).take (β a)=(k.toList.drop c).take (β a))
def wZ{a:TypeDesc}(c:q.underlying b6=γ a)(b:World):(isAgg b6).run q b=.ok a.isRow b:=by unfold isAgg;rw[Sem.run_bind,run_underlying c b];cases a<;>rfl
def mH{b:TypeDesc}(h:q.underlying b6=γ b)(k:b.isRow=ζ){c:TypeInfo}(o:q.info? b6=γ c)(d:Array Value)(a:Nat)(f:World):
  (part b6 d a).run q f=.ok (.agg (d.extract a (a+c.size))) f:=by
 simp[part,wZ h,k,sizeOf,typeInfo,o]
def oI{a:TypeDesc}(h:q.underlying b6=γ a)(k:a.isRow=κ)(b:Array Value)(c:Nat)(d:Value)(o:b[c]?=γ d)(f:World):
  (part b6 b c).run q f=.ok d f:=by
 simp[part,wZ h,k,o]
def one_cell{b:Array Value}{f:bZ}(c:fV [f] ((b.toList.drop e).take 1)):∃a,b[e]?=γ a/\f.fit a/\(b.toList.drop e).take 1=[a]:=by
 cases d:(b.toList.drop e)with
 |nil=>simp[d,fV]at c
 |cons a h=>
  refine⟨a,?_,?_,σ⟩
  .have:(b.toList.drop e)[0]?=γ a:=by simp[d]
   simpa using this
  .rw[d]at c;exact c.1
theorem JC(a b:ByteArray):a.toList=b.toList↔a=b:=by
 constructor
 .intro c;rw[ByteArray.toList_eq,ByteArray.toList_eq]at c;cases a;simp_all
 .rintro rfl;rfl
def JD(a:q.underlying b6=γ (.int e4)):qS q (e+1) b6 [.int e4]:=by
 intro f b C D E h k;obtain⟨o,p,c,r⟩:=one_cell h;obtain⟨x,y,d,z⟩:=one_cell k;rw[a8M,r,z,show f+(e+1)=(f+e)+1 by omega];cases o<;>first|exact c.elim|skip
 cases x<;>first|exact d.elim|skip
 simp only[bZ.fit]at c d;subst c;subst d;exact⟨_,_,_,oI a rfl _ _ _ p b,oI a rfl _ _ _ y b,run_equalIn_int b _ b6 _ _ _ _ a,σ⟩
def JE(a:q.underlying b6=γ .bool):qS q (e+1) b6 [.bool]:=by
 intro c b C D E d f;obtain⟨h,k,o,p⟩:=one_cell d;obtain⟨r,x,y,z⟩:=one_cell f;rw[a8M,p,z,show c+(e+1)=(c+e)+1 by omega];cases h<;>first|exact o.elim|skip
 cases r<;>first|exact y.elim|skip
 exact⟨_,_,_,oI a rfl _ _ _ k b,oI a rfl _ _ _ x b,run_equalIn_bool' b _ b6 _ _ a,σ⟩
def JF(a:q.underlying b6=γ .string):qS q (e+1) b6 [.str]:=by
 intro c b C D E d f;obtain⟨h,k,o,p⟩:=one_cell d;obtain⟨r,x,y,z⟩:=one_cell f;rw[a8M,p,z,show c+(e+1)=(c+e)+1 by omega];cases h<;>first|exact o.elim|skip
 cases r<;>first|exact y.elim|skip
 exact⟨_,_,_,oI a rfl _ _ _ k b,oI a rfl _ _ _ x b,run_equalIn_string b _ b6 _ _ a,by rw[beq_iff_eq,JC];simp⟩
theorem Bn{x:Nat}{k:TypeId}{a:List bZ}(y:qS q x k a)(z:q.cellsOf k=β a)(r:Nat)(o:World)(d f:Array Value):∀(b c:Nat),
  fV (θ b a).flatten ((d.toList.drop (c*β a)).take (θ b a).flatten.length)->fV (θ b a).flatten ((f.toList.drop (c*β a)).take (θ b a).flatten.length)->
  ∃h,(Op.eqItems (r+x) k (q.cellsOf k) d f (List.range' c b)).run q o=.ok h o/\
   (h=ζ↔(d.toList.drop (c*β a)).take (θ b a).flatten.length=(f.toList.drop (c*β a)).take (θ b a).flatten.length)
 |0,c,_,_=>⟨ζ,by rfl,σ⟩
 |b+1,c,C,D=>by
  simp only[aa7,a9p]at C D|-;obtain⟨E,F⟩:=pF C;obtain⟨G,L⟩:=pF D;have V:min (β a) (a++(θ b a).flatten).length=β a:=σ;have W:(a++(θ b a).flatten).length - β a=(θ b a).flatten.length:=σ;rw[a8G,V]at E G;rw[a8T,a8p,W,show c*β a+β a=(c+1)*β a by rw[a8D,aax]]at F L;obtain⟨l,m,h,P,S,e,g⟩:=y r o d f (c*β a) E G;obtain⟨i,n,j⟩:=Bn y z r o d f b (c+1) F L;have T:∀p:List Value,p.take (a++(θ b a).flatten).length=p.take (β a)++(p.drop (β a)).take (θ b a).flatten.length:=λp=>by
   grind
  rw[List.range'_succ];rw[<-z]at P S;simp only[Op.eqItems,Sem.run_bind,P,S,e,Result.andThen_ok];have s:((d.toList.drop (c*β a)).take (a++(θ b a).flatten).length=(f.toList.drop (c*β a)).take (a++(θ b a).flatten).length)↔(h=ζ/\i=ζ):=by rw[T,T,a8p,a8p,show c*β a+β a=(c+1)*β a by grind,g,j];grind[List.append_inj,oH]
  cases h;simp_all;simp_all
theorem Bo{z:Nat}{C:TypeId->Option (List bZ)}(D:∀k a,C k=γ a->q.cellsOf k=β a->(q.info? k).isSome->qS q z k a)(x:Nat)(o:World)(f h:Array Value):∀(p:List Field)(b:Nat)(d:List bZ),
  qR q C p b=γ d->fV d ((f.toList.drop b).take (β d))->fV d ((h.toList.drop b).take (β d))->
  ∃c,(Op.eqFields (x+z) f h p).run q o=.ok c o/\(c=ζ↔(f.toList.drop b).take (β d)=(h.toList.drop b).take (β d))
 |[],b,d,hk,_,_=>by
  simp_all [qR,Op.eqFields]
 |s::p,b,d,hk,W,e=>by
  simp only[qR]at hk;split at hk
  case isFalse=>cases hk
  rename_i E;split at hk
  case h_2=>cases hk
  rename_i a c g i;split at hk
  case isFalse=>cases hk
  rename_i y;obtain rfl:=Δ hk;obtain⟨F,G⟩:=pF W;obtain⟨L,P⟩:=pF e;have j:min (β a) (a++c).length=β a:=σ;have l:(a++c).length - β a=β c:=σ;rw[a8G,j]at F L;rw[a8T,a8p,l,<-y.1]at G P;obtain⟨t,u,S,T,V,m,v⟩:=D _ _ g y.1 y.2 x o f h b F L;obtain⟨n,w,A⟩:=Bo D x o f h p _ _ i G P;have B:∀r:List Value,r.take (a++c).length=r.take (β a)++(r.drop (β a)).take (β c):=λr=>by
   grind
  rw[<-E.1]at T V;simp only[Op.eqFields,if_pos E.2,Sem.run_bind,T,V,m,Result.andThen_ok];have H:((f.toList.drop b).take (a++c).length=(h.toList.drop b).take (a++c).length)↔(S=ζ/\n=ζ):=by grind[List.drop_drop,List.append_inj,oH]
  cases S;simp_all;simp_all
def uf(b:Array Value)(a c:Nat):(b.extract a (a+c)).toList=(b.toList.drop a).take c:=by simp
theorem ug:∀(d:Nat)(c:TypeId)(h:List bZ),flatK q d c=γ h->q.cellsOf c=β h->(q.info? c).isSome->qS q d c h
 |0,c,h,a,_,_=>by trivial
 |d+1,c,h,a,S,T=>by
  simp only[flatK]at a;cases hu:q.underlying c with
  |none=>simp[hu]at a
  |some desc=>
   simp only[hu]at a;cases desc<;>simp only[]at a<;>first
    |(cases a;done)
    |skip
   case int s=>obtain rfl:=Δ a;exact JD hu
   case bool=>obtain rfl:=Δ a;exact JE hu
   case string=>obtain rfl:=Δ a;exact JF hu
   case array V g=>
    split at a
    case h_2=>cases a
    rename_i D i;split at a
    case isFalse=>cases a
    rename_i E;obtain rfl:=Δ a;have ih:=ug d g D i E.1 E.2;obtain⟨k,o⟩:=a8i.1 T;obtain⟨t,j⟩:=a8i.1 E.2;have F:k.size=(θ V D).flatten.length:=by simpa[Program.cellsOf,o] using S
    intro x f p r b y z;have C:=Bn ih E.1 x f (p.extract b (b+k.size)) (r.extract b (b+k.size)) V 0;simp only[aaM,a9F,uf,F]at C;rw[a8G,a9L,a8G,a9L]at C;obtain⟨G,W,L⟩:=C y z;refine⟨_,_,G,mH hu rfl o p b f,mH hu rfl o r b f,?_,L⟩;rw[show x+(d+1)=(x+d)+1 by omega,run_equalIn_array f (x+d) _ _ hu j,List.range_eq_range',F];exact W
   case struct e=>
    split at a;trivial;rename_i u;obtain⟨k,o⟩:=a8i.1 T;have F:k.size=β h:=by simpa[Program.cellsOf,o] using S
    have v:q.fieldsOf c=e:=by simp[Program.fieldsOf,hu]
    intro x f p r b y z;have C:=λp r y z=>
     Bo (λc D l m n=>ug d c D l m n) x f p r e.toList 0 h a y z
    have P:=C (p.extract b (b+k.size)) (r.extract b (b+k.size));simp only[a9F,uf,F]at P;rw[a8G,a9L,a8G,a9L]at P;obtain⟨G,W,L⟩:=P y z;refine⟨_,_,G,mH hu rfl o p b f,mH hu rfl o r b f,?_,L⟩;grind[run_equalIn_struct]
end
def kb(b:List (Nat×bZ)):List bZ:=b.flatMap λa=>θ a.1 a.2
def nG:List bZ->List (Nat×bZ)
 |[]=>[]
 |a::bF=>match nG bF with
  |(c,b)::d=>if a=b then(c+1,b)::d else(1,a)::(c,b)::d
  |[]=>[(1,a)]
theorem uh:∀a:List bZ,kb (nG a)=a
 |[]=>rfl
 |b::a=>by
  have ih:=uh a;grind[nG,kb]
theorem pG{L:bf}:∀(z:List (Nat×bZ))(a:ύ)(b:List Value),dO z a->β b=β a->(∀(c:Nat)(d:Value)(f:R),b[c]?=γ d->a[c]?=γ f->aW L d f)->
  fV (kb z) b/\a=b.map R.v
 |[],a,b,o,k,_=>by
  simp only[dO]at o;subst o;have:=a7y (by trivial);subst this;trivial
 |(p,r)::z,a,b,o,k,C=>by
  obtain⟨T,V,W⟩:=o;obtain⟨l,m⟩:=pG z (a.drop p) (b.drop p) W (by simp[k]) (λc d f F G=>C (p+c) d f (by simpa using F) (by simpa using G));have e:∀(x)(a)(b),β b=β a->β a=x->(∀h∈a,r.sq h)->(∀(c:Nat)(d)(f),b[c]?=γ d->a[c]?=γ f->aW L d f)->
    (∀D E,fV E D->fV (θ x r++E) (b++D))/\a=b.map R.v:=by
   intro x
   induction x with
   |zero=>grind
   |succ x ih=>
    intro a b k hm P C
    match a,b,k,hm with
    |h::a,v::b,k,hm=>
     obtain⟨g,i⟩:=ih a b (by simpa using k) (by simpa using hm) (λh y=>P h (a9l _ y)) (λc d f F G=>C (c+1) d f (by trivial) (by trivial));have y:=P h a8X;have j:=C 0 v h rfl rfl;have S:h=.v v/\r.fit v:=by
      cases h<;>first
       |(cases r<;>exact y.elim)
       |skip
      cases j;refine⟨rfl,?_⟩;cases r<;>cases v<;>first|exact y|exact y.elim
     refine⟨λD E o=>⟨S.2,g D E o⟩,by rw[S.1,i];rfl⟩
  obtain⟨n,q⟩:=e p (a.take p) (b.take p) (by simp[k]) (by simp[T]) V (λc d f F G=>by
   grind)
  grind[kb,List.take_append_drop]
def bM(x:Program)(y:R->U->Prop)(k:Oper)(f:Act)(h:World)(o:bf)(p:U)(z:R->U->Prop):Prop:=
 ∀r:Exit->Act->World->Prop,(∀v a b c d,Step o p h b c d->aW b v a->up y a c->r (.panic [{v,recovered:=κ}]) f d)->k.wp x f h (λC d=>∃v b c a,C=f.put k.dst v/\Step o p h b c d/\aW b v a/\z a c) r
variable{a7 h5 j1:Own}
section
variable{o:Oper}{a:Act}
def bM.value{f:bf}{v:Value}{b:bf}(c:(execOp a.eval o).run q m=.ok (.value v) j4)(d:Step f g m b w j4)(h:aW b v s)(k:b2 s w):bM q u o a m f g b2:=by intro p _;unfold Oper.wp;rw[c];exact⟨v,b,w,s,rfl,d,h,k⟩
def bM.same{b:bf}{v:Value}(c:Holds b g m)(d:(execOp a.eval o).run q m=.ok (.value v) m)(f:aW b v s)(h:b2 s g):bM q u o a m b g b2:=
 .value d (.refl c) f h
def bM.skip{b:bf}(c:(execOp a.eval o).run q m=.ok .skip j4)(d:Step v g m b w j4)(f:b2 (.aJ []) w):bM q u o a m v g b2:=by intro h _;unfold Oper.wp;rw[c];exact⟨undef,b,w,.aJ [],rfl,d,aW.undef _,f⟩
def aW.dy{b:Value}(c:aW v e8 (.v b)):e8=b:=by cases c;rfl
def aW.kc(b:aW v e8 (.ptr e i)):e8=.pointer (γ ⟨e,i,η⟩):=by cases b;rfl
theorem aW.aX{h:Array Value}{c:ύ}(k:bp v h c)(p:∀f∈c,f.one=ζ)(b d:Nat)(r:b+d<=β c):aW v (.agg (h.extract b (b+d))) (aX ζ d (c.drop b)):=by have:=k.sub b d r;exact .agg _ _ (λf x=>p f (a7U (a7J x))) this.1 this.2
theorem aW.x0{c:Array Value}(d:bp v c j)(b:Nat)(k:b+1<=β j):aW v (c.getD b Go.undef) (bw.aX κ 1 (j.drop b)):=by
 have f:b<β j:=ε;have:=d.2 b j[b] (Τ f);have h:bw.aX κ 1 (j.drop b)=j[b]:=by unfold bw.aX;simp_all
 rw[h];exact this
theorem Holds.read{l:Nat}{k:ύ}(h:Holds v g m)(b:g.read l=γ k):(∀f∈k,f.one=ζ)/\∃d T y,m.heap[l]?=γ (.cells d T y)/\bp v d k:=by
 unfold U.read at b;split at b
 .rename_i f c;obtain rfl:=Δ b;obtain⟨p,d,T,r,x,_⟩:=h.dN l _ c;simp_all
 .rename_i f c;obtain rfl:=Δ b;obtain⟨p,d,T,y,r,x,_⟩:=h.dN l _ c;simp_all
 .rename_i T f c;obtain rfl:=Δ b;obtain⟨p,d,r,x,_⟩:=h.dN l _ c;simp_all
 .rename_i f c;obtain rfl:=Δ b;obtain⟨p,d,T,r,x,_⟩:=h.dN l _ c;simp_all
 .cases b
def x1(b:World)(c:TypeId)(d:TypeDesc)(f:Addr)(h:Value)(k:q.underlying c=γ d)(p:d.isRow=κ)(r:b.cell? f=γ h):(loadVar c f).run q b=.ok h b:=by simp[loadVar,wZ k,p,r]
theorem JG{H:bf}(p:TypeId)(z:Operand)(P:o.op=.load p z)(f:TypeDesc)(x:q.underlying p=γ f)(c:Nat)(A:(q.info? p).map (·.size)=γ c)(B:f.isRow=κ->c=1)
  (M:aQ z=ζ) (N:bI H a l) (y:Holds H g m) (C:G ⟨q,u⟩ (.load f.isRow c z) l g b2):bM q u o a m H g b2:=by
 have D:=N.ai z M;simp only[G]at C;split at C
 .rename_i E b i;rw[i]at D;have I:=D.kc;split at C
  case h_2=>trivial
  rename_i S O;obtain⟨V,h⟩:=C;obtain⟨j,k,T,k4,Q,W⟩:=y.read O;cases d:f.isRow with
  |true=>
   rw[d]at h;have n:m.rangeAt E b ((k.toList.drop b).take c):=by intro F v s;grind[cell_of_row]
   have X:((k.toList.drop b).take c).length=c:=by have:=W.1;simp;omega
   have r:=run_loadAt_mid m E b p ((k.toList.drop b).take c) f n x d (by rw[X];exact A);refine .same y (v:=.agg ((k.toList.drop b).take c).toArray) ?_ ?_ h
   .simp[execOp,P,I,r]
   .have:=aW.aX W j b c V;rw[show((k.toList.drop b).take c).toArray=k.extract b (b+c) by grind];exact this
  |false=>
   rw[d]at h;obtain rfl:=B d;have Y:b<k.size:=by have:=W.1;omega
   have L:m.cell? ⟨E,b,η⟩=γ (k.getD b undef):=by rw[cell_of_row m E b k T _ Q];simp[Y]
   have r:=x1 m p f ⟨E,b,η⟩ _ x d L;refine .same y ?_ (aW.x0 W b V) h;simp[execOp,P,I,Instr.loadAt,Instr.sureAddr,r]
 .rename_i S i;rw[i]at D;obtain⟨V,h⟩:=C;generalize K:a.eval z=k5 at D;cases D with
  |c4 t b e S j hH Z=>
   have k2:=λF s=>y.ro _ _ _ (hH F s);cases d:f.isRow with
   |true=>
    rw[d]at h;have n:m.rangeAt t b ((ψ c).map e):=by intro F v s;grind
    have r:=run_loadAt_mid m t b p ((ψ c).map e) f n x d (by simp[A]);refine .same y (v:=.agg ((ψ c).map e).toArray) ?_ ?_ h
    .simp only[execOp,P,K,Sem.run_bind,r];rfl
    .refine .agg _ _ (λw L=>j w (a7J L)) Ι (λF k6 x=>?_);have k3:F<c:=by grind
     rw[a8y k3]at x;simp_all
   |false=>
    rw[d]at h;obtain rfl:=B d;have L:=k2 0 ε;have r:=x1 m p f ⟨t,b,η⟩ _ x d L;refine .same y (v:=e 0) ?_ ?_ h
    .simp[execOp,P,K,Instr.loadAt,Instr.sureAddr,r]
    .match S,V with
     |w::S,_=>exact Z 0 w rfl
 .trivial
theorem JH(h:TypeId)(c b:Array Value)(d:Nat){f:Nat×Nat}(r:m.heap[e]?=γ (.cells c b6 f))(x:∀k,k<c.size->¬(f.1<=k/\k<f.2))(E:d+b.size<=c.size)(y:∀z∈b.toList,z.oneCell'=ζ)(v:Value)(F:v.cells=b)
  (C:(q.info? h).map (·.size)=γ b.size):(Instr.storeAt h (.pointer (γ ⟨e,d,η⟩)) v).run q m=.ok () (m.setRow e (dm c d b.toList)):=by
 have p:=ue q e d b6 f b.toList 0 c m r x (by trivial) y;simp only[a9A]at p;have G:(storeCells ⟨e,d,η⟩ b.toList).run q m=.ok () (m.setRow e (dm c d b.toList)):=by rw[p];rfl
 cases D:q.info? h with
 |none=>simp[D]at C
 |some L=>simp_all [Instr.storeAt,Instr.sureAddr,storeVar,sizeOf,typeInfo]
def JI(h:TypeId)(c b:Operand)(z:o.op=.store h c b)(k:Nat)(C:(q.info? h).map (·.size)=γ k)(t:0<k)(D:aQ c=ζ)(E:aQ b=ζ)(p:bI v a l)(F:Holds v g m)
  (d:G ⟨q,u⟩ (.store k c b) l g b2):bM q u o a m v g b2:=by
 have r:=p.ai c D;have L:=p.ai b E;simp only[G]at d;split at d
 case h_2=>trivial
 rename_i w x P;rw[P]at r;split at d
 .rename_i A S;obtain⟨V,B,W⟩:=d;have e:=r.kc;obtain⟨f,y⟩:=L.cells ε;obtain⟨i,T,j,H,n⟩:=Step.store F S x (ai l b).cells (a.eval b).cells f y ε;refine .skip ?_ n W;have s:=JH h i (a.eval b).cells x j (wV _) (by have:=f.1;omega) (f.oA y) (a.eval b) rfl (by rw[C,f.1,V]);simp only[execOp,z,e,Sem.run_bind,s];rfl
 .trivial
def JJ(c:TypeId)(k:o.op=.alloc c)(f:TypeInfo)(p:q.info? c=γ f)(b:Value)(r:f.zero=γ b)(x:∀d∈b.cells.toList,d.oneCell'=ζ)(h:Holds v g m)
  (y:G ⟨q,u⟩ (.alloc c (b.cells.toList.map dt)) l g b2):bM q u o a m v g b2:=by
 refine .value ?_ (Step.new h b.cells c (b.cells.toList.map dt) (λC z=>by obtain⟨d,_,rfl⟩:=a7M.1 z;exact oE d) (bp.pB v _ x))
  (.ptr _ _) (y _ h.eD)
 simp[execOp,k,Instr.alloc,zeroValue,typeInfo,p,r,newVar,newRow]
theorem JK(c:TypeId)(b:Operand)(h:o.op=.box c b)(k:aQ b=ζ)(p:bI v a l)(d:Holds v g m)(f:G ⟨q,u⟩ (.box c b) l g b2):bM q u o a m v g b2:=by obtain⟨r,x⟩:=(p.ai b k).cells f.1;refine .value ?_ (Step.new d _ c _ x r) (.ptr _ _) (f.2 _ d.eD);simp[execOp,h,Instr.box,newVar,newRow]
def Bp(b:Operand)(c:o.op=.move b\/o.op=.assign b)(d:aQ b=ζ)(f:bI v a l)(h:Holds v g m)(k:G ⟨q,u⟩ (.dP b) l g b2):bM q u o a m v g b2:=by refine .same h ?_ (f.ai b d) k;rcases c with c|c<;>simp[execOp,c]
theorem JL(b c d:Operand)(h:o.op=.pick b c d)(y:aQ b=ζ)(z:aQ c=ζ)(C:aQ d=ζ)(f:bI v a l)(k:Holds v g m)(p:G ⟨q,u⟩ (.pick b c d) l g b2):bM q u o a m v g b2:=by
 have r:=f.ai b y;simp only[G]at p;split at p
 case h_2=>trivial
 rename_i D E;rw[E]at r;have x:=r.dy;cases D
 .exact .same k (by simp[execOp,h,x,asBool]) (f.ai d C) (by trivial)
 .exact .same k (by simp[execOp,h,x,asBool]) (f.ai c z) (by trivial)
def JM(c:Operand)(h:o.op=.nilCheck c)(r:aQ c=ζ)(x:bI v a l)(k:Holds v g m)(d:G ⟨q,u⟩ (.qJ c) l g b2):bM q u o a m v g b2:=by
 have b:=x.ai c r;simp only[G]at d;split at d
 .rename_i C D f;rw[f]at b;have:=b.kc;exact .same k (by simp[execOp,h,this]) (.ptr _ _) d
 .rename_i y f;rw[f]at b;generalize p:a.eval c=z at b;refine .same k ?_ b d;cases b;simp[execOp,h,p]
 .rename_i E y f;rw[f]at b;generalize p:a.eval c=z at b;refine .same k ?_ b d;cases b;simp[execOp,h,p]
 .trivial
theorem Bq(h:aW v e8 (.c4 j))(d:Nat):∃b c,e8=.pointer (γ ⟨b,c,η⟩)/\aW v (.pointer (γ ⟨b,c+d,η⟩)) (.c4 (j.drop d)):=by
 cases h with
 |c4 b c k j p hH y=>refine⟨b,c,rfl,.c4 b (c+d) (λf=>k (d+f)) _ (λr x=>p r (a7U x)) (λf z=>?_) (λf C D=>?_)⟩;grind;grind
theorem hM(b c d:Nat):(⟨b,c,η⟩:Addr).add d=⟨b,c+d,η⟩:=Addr.add_mid b c d
theorem JN(p:TypeId)(d:Operand)(r:Nat)(z:o.op=.fieldAddr p d r)(C:Array Field)(W:q.underlying p=γ (.struct C))(b:Field)(e:C[r]?=γ b)(D:Nat)(L:(q.info? b.type).map (·.size)=γ D)(i:D≠0)
  (P:aQ d=ζ) (S:bI v a l) (E:Holds v g m) (f:G ⟨q,u⟩ (.lH b.offset d) l g b2):bM q u o a m v g b2:=by
 have h:=S.ai d P;have F:∀k c:Nat,(Instr.fieldAt p (.pointer (γ ⟨k,c,η⟩)) r).run q m=.ok (.pointer (γ ⟨k,c+b.offset,η⟩)) m:=by
  intro k c;cases T:q.info? b.type with
  |none=>simp[T]at L
  |some ii=>simp_all [Instr.fieldAt,run_underlying,Instr.sureAddr,fieldPlace,sizeOf,typeInfo,hM]
 simp only[G]at f;split at f
 .rename_i j c x;rw[x]at h;have y:=h.kc;exact .same E (by simp only[execOp,z,y,Sem.run_bind,F];rfl) (.ptr _ _) f
 .rename_i n x;rw[x]at h;obtain⟨k,c,y,V⟩:=Bq h b.offset;exact .same E (by simp only[execOp,z,y,Sem.run_bind,F];rfl) V f
 .trivial
theorem JO(z:TypeId)(f h:Operand)(A:o.op=.indexAddr z f h)(C:Nat)(D:TypeId)(V:q.underlying z=γ (.array C D))(c:Nat)(P:(q.info? D).map (·.size)=γ c)
  (W:aQ f=ζ) (e:aQ h=ζ) (S:bI v a l) (T:Holds v g m) (k:G ⟨q,u⟩ (.qK c C f h) l g b2):bM q u o a m v g b2:=by
 have p:=S.ai f W;have r:=S.ai h e;have B:∀(x d)(y)(b:Int),0<=b->b<C->(Instr.indexAt z (.pointer (γ ⟨x,d,η⟩)) (.int y b)).run q m=.ok (.pointer (γ ⟨x,d+b.toNat*c,η⟩)) m:=by
  intro x d y b i j;cases E:q.info? D with
  |none=>simp[E]at P
  |some ii=>
   have n:ii.size=c:=by simpa[E] using P
   simp[Instr.indexAt,asIntOf,run_underlying V,Instr.sureAddr,i,j,sizeOf,typeInfo,E,n,hM]
 simp only[G]at k;split at k
 .rename_i H d y b F L;rw[F]at p;rw[L]at r;have s:=p.kc;have t:=r.dy;exact .same T (by simp_all [execOp]) (.ptr _ _) k.2.2
 .rename_i I y b F L;rw[F]at p;rw[L]at r;have t:=r.dy;obtain⟨x,d,s,w⟩:=Bq p (b.toNat*c);exact .same T (by simp_all [execOp]) w k.2.2
 .trivial
theorem dg{d:Nat}:∀ {b:ύ},(∀c∈b,β c.cells=d)->(flat b).length=β b*d
 |[],_=>by simp[flat]
 |h::b,f=>by
  have:=dg (λc k=>f c (a9l _ k));have p:=f h a8X;simp only[flat,a7R,Ρ,a7I,a8D,aax]at this|-;omega
theorem gx{d:Nat}:∀ {c:ύ} (b:Nat),(∀f∈c,β f.cells=d)->(flat c).drop (b*d)=flat (c.drop b)/\(flat c).take (b*d)=flat (c.take b)
 |c,0,_=>by simp[flat]
 |[],b+1,_=>by simp[flat]
 |h::c,b+1,k=>by
  obtain⟨r,x⟩:=gx b (λf p=>k f (a9l _ p));have y:=k h a8X;have f:(b+1)*d=β h.cells+b*d:=by grind
  grind[flat,List.drop_append,List.drop_of_length_le,Nat.add_sub_cancel_left]
def aW.x2(r:aW v e8 (.J j a7))(G:j≠[]):∃(c d f h:Nat)(k:Nat->Value),e8=.slice (γ ⟨c,d,η⟩) (β j) f/\0<h/\β j<=f/\(∀x∈j,β x.cells=h)/\(∀y∈flat j,y.one=ζ)/\
  (∀b,b<β j*h->v c (d+b)=γ (k b))/\(∀b p,(flat j)[b]?=γ p->aW v (k b) p)/\a7.ok c d f:=by
 cases r with
 |dk=>trivial
 |J c d len f h k j a7 hk hlen z C D hH E F=>subst hlen;exact⟨c,d,f,h,k,rfl,hk,z,C,D,hH,E,F⟩
theorem JP(W:TypeId)(x P:Operand)(O:o.op=.indexAddr W x P)(e:TypeId)(S:q.underlying W=γ (.slice e))(c:Nat)(A:(q.info? e).map (·.size)=γ c)
  (Q:aQ x=ζ) (X:aQ P=ζ) (B:bI v a l) (i:Holds v g m) (f:G ⟨q,u⟩ (.dZ c x P) l g b2):bM q u o a m v g b2:=by
 have h:=B.ai x Q;have y:=B.ai P X;have Y:∀(z k len p:Nat)(C)(b:Int),0<=b->b<len->(Instr.indexAt W (.slice (γ ⟨z,k,η⟩) len p) (.int C b)).run q m=.ok (.pointer (γ ⟨z,k+b.toNat*c,η⟩)) m:=by
  intro z k len p C b D T;cases j:q.info? e with
  |none=>simp[j]at A
  |some ii=>
   have Z:ii.size=c:=by simpa[j] using A
   simp[Instr.indexAt,asIntOf,run_underlying S,D,T,sizeOf,typeInfo,j,Z,hM]
 simp only[G]at f;split at f
 .rename_i n l0 C b E F;rw[E]at h;rw[F]at y;have s:=y.dy;obtain⟨D,f⟩:=f;split at f
  case h_2=>trivial
  rename_i el H;obtain⟨k2,L⟩:=f;have l1:=(a7B.1 H).1;obtain⟨z,k,p,t,k3,l2,l3,I,w,l4,k4,k5,_⟩:=h.x2 (by grind);have k6:=a7C H;obtain rfl:c=t:=by rw[<-k2];exact w el k6
  have l5:b<(β n):=ε;refine .same i (v:=.pointer (γ ⟨z,k+b.toNat*c,η⟩)) (by simp_all [execOp]) ?_ L;have K:∀d r,el.cells[d]?=γ r->(flat n)[b.toNat*c+d]?=γ r:=λd r S=>by
   have l6:=(gx b.toNat w).1;have:((flat n).drop (b.toNat*c))[d]?=γ r:=by grind[List.drop_eq_getElem_cons,Η,flat,List.getElem?_append_left]
   simpa using this
  refine .c4 z _ (λd=>k3 (b.toNat*c+d)) _ (λl7 l8=>?_) (λd k7=>?_) (λd r S=>k5 _ r (K d r S));grind[List.getElem?_of_mem,List.mem_of_getElem?]
  .rw[aaZ];refine k4 _ ?_;have:=(a7B.1 (K d _ (Τ k7))).1;rwa[dg w]at this
 .rename_i V k len l9 t C b E F;rw[E]at h;rw[F]at y;have s:=y.dy;obtain⟨rfl,D,T,L⟩:=f;generalize M:a.eval x=k8 at h;cases h with
  |bC V k len p c k9 I=>exact .same i (by simp_all [execOp]) (.ptr _ _) L
 .rename_i V len p t C b E F;rw[E]at h;rw[F]at y;have s:=y.dy;obtain⟨rfl,D,T,L⟩:=f;generalize M:a.eval x=k8 at h;cases h with
  |ar V len p c k9 I=>have N:=Y V 0 len p C b D T;rw[a7X]at N;exact .same i (by simp only[execOp,O,M,s,Sem.run_bind,N];rfl) (.ptr _ _) L
 .trivial
end
section
variable{o:Oper}{a:Act}
theorem Br{y:bf}{c:Array Value}(k:bp y c j)(L:∀z∈j,z.one=ζ)(f:TypeId)(h:TypeDesc)(C:q.underlying f=γ h)(d:Nat)(p:(q.info? f).map (·.size)=γ d)(D:h.isRow=κ->d=1)
  (b:Nat) (E:b+d<=β j):∃v,(∀m,(part f c b).run q m=.ok v m)/\aW y v (aX h.isRow d (j.drop b)):=by
 cases r:q.info? f with
 |none=>simp[r]at p
 |some F=>
  have P:F.size=d:=by simpa[r] using p
  cases x:h.isRow with
  |true=>simp_all [mH,aW.aX]
  |false=>
   obtain rfl:=D x;have G:b<c.size:=by have:=k.1;omega
   exact⟨_,λm=>oI C x c b (c.getD b undef) (by simp[G]) m,aW.x0 k b E⟩
def JQ{y:bf}(p:TypeId)(c:Operand)(r:Nat)(z:o.op=.field p c r)(x:Array Field)(C:q.underlying p=γ (.struct x))(b:Field)(D:x[r]?=γ b)(f:TypeDesc)(E:q.underlying b.type=γ f)(h:Nat)
  (F:(q.info? b.type).map (·.size)=γ h) (L:f.isRow=κ->h=1) (P:aQ c=ζ) (S:bI y a l) (T:Holds y g m) (d:G ⟨q,u⟩ (.ss f.isRow b.offset h c) l g b2):bM q u o a m y g b2:=by
 have k:=S.ai c P;simp only[G]at d;split at d
 case h_2=>exact d.elim
 rename_i V W;rw[W]at k;generalize e:a.eval c=w at k;cases k with
 |agg A V i j n=>obtain⟨v,s,t⟩:=Br ⟨j,n⟩ i b.type f E h F L b.offset d.1;exact .same T (by simp[execOp,z,e,Instr.field,run_underlying C,D,asAgg,s]) t d.2
theorem JR{C:bf}(x:TypeId)(c f:Operand)(B:o.op=.index x c f)(y:Nat)(d:TypeId)(H:q.underlying x=γ (.array y d))(h:TypeDesc)(F:q.underlying d=γ h)(b:Nat)
  (k:(q.info? d).map (·.size)=γ b) (L:h.isRow=κ->b=1) (P:aQ c=ζ) (S:aQ f=ζ) (z:bI C a l) (T:Holds C g m) (p:G ⟨q,u⟩ (.qL h.isRow b y c f) l g b2):bM q u o a m C g b2:=by
 have r:=z.ai c P;have D:=z.ai f S;simp only[G]at p;split at p
 case h_2=>trivial
 rename_i V I W e i;rw[e]at r;rw[i]at D;have K:=D.dy;generalize M:a.eval c=N at r;cases r with
 |agg O V j n s=>
  obtain⟨Q,hm,t,w⟩:=p;obtain⟨v,X,A⟩:=Br ⟨n,s⟩ j d h F b k L (W.toNat*b) t;cases E:q.info? d with
  |none=>simp[E]at k
  |some ii=>
   have Y:ii.size=b:=by simpa[E] using k
   exact .same T (by simp_all [execOp,Instr.index,asIntOf,run_underlying,sizeOf,typeInfo]) A w
def JS(f:TypeId)(c d:Operand)(z:o.op=.index f c d)(C:q.underlying f=γ .string)(D:aQ c=ζ)(E:aQ d=ζ)(h:bI v a l)(F:Holds v g m)(b:G ⟨q,u⟩ (.my c d) l g b2):bM q u o a m v g b2:=by
 have k:=h.ai c D;have p:=h.ai d E;simp only[G]at b;split at b
 case h_2=>trivial
 rename_i r j x L P;rw[L]at k;rw[P]at p;have S:=k.dy;have T:=p.dy;obtain⟨V,b⟩:=b;split at b
 case h_2=>trivial
 rename_i W y;have e:r[x.toNat]?=γ W:=by have i:=(a8L.1 y).1;rw[getElem?_pos r x.toNat i];have:=(a8L.1 y).2;rw[<-this];rfl
 exact .same F (by simp[execOp,z,S,T,Instr.index,asIntOf,run_underlying C,V,e]) (.v _ rfl) b
theorem JT(b:Operand)(c:Nat)(h:o.op=.extract b c)(k:aQ b=ζ)(p:bI v a l)(r:Holds v g m)(d:G ⟨q,u⟩ (.ext b c) l g b2):bM q u o a m v g b2:=by
 have f:=p.ai b k;simp only[G]at d;split at d
 case h_2=>trivial
 rename_i x y;rw[y]at f;split at d
 case h_2=>trivial
 rename_i z C;generalize D:a.eval b=L at f;cases f with
 |aJ us x P E=>
  have F:c<us.size:=by grind
  have:=E c z C;refine .same r ?_ this d;simp[execOp,h,D,Instr.extract,F]
def JU(F:TypeId)(c:Operand)(r:o.op=.call {callee:=.builtin .len,args:=#[c],argTypes:=#[F]})(S:TypeId)(x:q.underlying F=γ (.slice S))
  (T:aQ c=ζ) (V:bI v a l) (y:Holds v g m) (f:G ⟨q,u⟩ (.len c) l g b2):bM q u o a m v g b2:=by
 have b:=V.ai c T;simp only[G]at f;split at f
 .rename_i L W h;rw[h]at b;generalize k:a.eval c=z at b;have C:∃D d,z=.slice D (β L) d:=by
   cases b with
   |dk D d=>simp
   |J j P len d p n L W hk C=>subst C;simp
  obtain⟨D,d,rfl⟩:=C;exact .same y (by simp[execOp,r,resolve,invoke,builtin,k,Builtin.len_,run_underlying x,goInt]) (.v _ rfl) f
 .rename_i E P e s p h;rw[h]at b;generalize k:a.eval c=z at b;cases b with
  |bC E P len d p hk i=>exact .same y (by simp[execOp,r,resolve,invoke,builtin,k,Builtin.len_,run_underlying x,goInt]) (.v _ rfl) f
 .rename_i E e d p h;rw[h]at b;generalize k:a.eval c=z at b;cases b with
  |ar E len d p hk i=>exact .same y (by simp[execOp,r,resolve,invoke,builtin,k,Builtin.len_,run_underlying x,goInt]) (.v _ rfl) f
 .trivial
def JV(d:TypeId)(b:Operand)(h:o.op=.call {callee:=.builtin .len,args:=#[b],argTypes:=#[d]})(k:q.underlying d=γ .string)
  (p:aQ b=ζ) (r:bI v a l) (x:Holds v g m) (c:G ⟨q,u⟩ (.qM b) l g b2):bM q u o a m v g b2:=by
 have f:=r.ai b p;simp only[G]at c;split at c
 .rename_i C y;rw[y]at f;have z:=f.dy;exact .same x (by simp[execOp,h,resolve,invoke,builtin,z,Builtin.len_,run_underlying k,goInt]) (.v _ rfl) c
 .trivial
theorem JW(c:BinOp)(r:TypeId)(h k d:Value)(b:bj c h k=γ d)(p:World):(binOp c r h k).run q p=.ok d p/\d.oneCell'=true:=by
 unfold bj at b;split at b
 .rename_i z C D E;split at b
  .rename_i f;unfold oF at b;split at b
   .cases b
   .rename_i x;cases c<;>simp[gI]at f<;>simp only[]at b<;>(obtain rfl:=Δ b)<;>simp[binOp,Op.shift,x,Value.oneCell']
  .rename_i f;split at b
   .rename_i y;subst y;cases c<;>simp[gI]at f<;>simp only[ka]at b<;>first
     |(split at b<;>first|(cases b;done)|skip)
     |skip
    all_goals (obtain rfl:=Δ b)
    all_goals simp_all [binOp,Op.intArith,Op.intDiv,Op.intBits,Op.intCmp,Value.oneCell']
    all_goals grind
   .cases b
 .unfold qI at b;cases c<;>simp only[]at b<;>first
   |(cases b;done)
   |(split at b<;>first|(cases b;done)|skip)
   |skip
  all_goals (obtain rfl:=Δ b)
  all_goals simp[binOp,Op.stringOp,Value.oneCell']
  omega
 .cases b
def JX(b:BinOp)(k:TypeId)(p r:Operand)(d f:Value)(c:(bj b d f).isSome)(h:World):(eqGuard b k p r d f).run q h=.ok () h:=by
 unfold bj at c;split at c<;>first
  |(cases b<;>simp[eqGuard];done)
  |simp at c
theorem x3{p:bf}(f:BinOp)(h:TypeId)(b c:Operand)(y:TypeId)(V:o.op=.binOp f h b c y)(z:aQ b=ζ)(C:aQ c=ζ)(k:bI p a l)(D:Holds p g m)(d:G ⟨q,u⟩ (.bin f b c) l g b2):bM q u o a m p g b2:=by
 have r:=k.ai b z;have x:=k.ai c C;simp only[G]at d;split at d
 case h_2=>trivial
 rename_i E v F L;rw[F]at r;rw[L]at x;have W:=r.dy;have e:=x.dy;split at d
 case h_2=>trivial
 rename_i P S;obtain⟨i,T⟩:=JW (q:=q) f h E v P S m;exact .same D (by simp_all [execOp,JX]) (.v _ T) d
def JY(c:UnOp)(r:TypeId)(d:Operand)(x:o.op=.unOp c r d)(y:aQ d=ζ)(z:bI v a l)(C:Holds v g m)(f:G ⟨q,u⟩ (.un c d) l g b2):bM q u o a m v g b2:=by
 have h:=z.ai d y;simp only[G]at f;split at f
 case h_2=>trivial
 rename_i D E;rw[E]at h;have F:=h.dy;split at f
 case h_2=>trivial
 rename_i k b;have p:(Op.unary c D).run q m=.ok k m/\k.oneCell'=true:=by
  unfold oG at b;split at b
  .cases c<;>simp only[]at b<;>first|(cases b;done)|skip
   obtain rfl:=Δ b;trivial
  .cases c<;>simp only[]at b<;>first|(cases b;done)|skip
   all_goals (obtain rfl:=Δ b)
   all_goals simp[Op.unary,Op.intArith,Op.intBits,Value.oneCell']
  .cases b
 exact .same C (by simp[execOp,x,F,p.1]) (.v _ p.2) f
def JZ(d f:TypeId)(b:Operand)(p:o.op=.convert d f b)(h r:IntKind)(x:q.underlying d=γ (.int r))(y:q.underlying f=γ (.int h))(z:aQ b=ζ)(C:bI v a l)(D:Holds v g m)(c:G ⟨q,u⟩ (.jk h b) l g b2):bM q u o a m v g b2:=by
 have k:=C.ai b z;simp only[G]at c;split at c
 case h_2=>trivial
 rename_i L P E;rw[E]at k;have F:=k.dy;exact .same D (by simp[execOp,p,F,convert,run_underlying x,run_underlying y,Conv.intToInt]) (.v _ rfl) c
theorem K0(C:Bool)(b:TypeId)(h k:Operand)(w:TypeId)(l4:o.op=.binOp (if C then .neq else .eql) b h k w)(d:Nat)(c:List bZ)(A:flatK q d b=γ c)(P:q.cellsOf b=β c)(S:(q.info? b).isSome)(l5:d<=10000)
  (B:(q.underlying b).any (·.isRow)=ζ) (l6:q.eqGuardType q.depth b=κ) (H:aQ h=ζ) (I:aQ k=ζ) (T:bI v a l) (V:Holds v g m) (D:G ⟨q,u⟩ (.eqv C (nG c) h k) l g b2):bM q u o a m v g b2:=by
 have E:=T.ai h H;have F:=T.ai k I;simp only[G]at D;split at D
 case h_2=>trivial
 rename_i p r K M;rw[K]at E;rw[M]at F;generalize l7:a.eval h=l8 at E;generalize l9:a.eval k=n0 at F;cases E with
 |agg f p n2 N O=>
  cases F with
  |agg us r n3 Q X=>
   obtain⟨Y,Z,W⟩:=D;have e:bp v f p:=⟨N,O⟩;have i:bp v us r:=⟨Q,X⟩;obtain⟨j,k2⟩:=pG _ p f.toList Y (bp.ee.1 e).1 (bp.ee.1 e).2;obtain⟨n,k3⟩:=pG _ r us.toList Z (bp.ee.1 i).1 (bp.ee.1 i).2;rw[uh]at j n;have k4:f.size=β c:=by have:=oH j;trivial
   have k5:us.size=β c:=by have:=oH n;trivial
   obtain⟨L,s⟩:=a8i.1 S;have t:L.size=β c:=by simpa[Program.cellsOf,s] using P
   obtain⟨x,k6⟩:∃x,q.underlying b=γ x:=by
    cases hu:q.underlying b with
    |none=>simp[hu]at B
    |some x=>simp
   have k7:x.isRow=true:=by simp_all
   obtain⟨n4,n5,k8,y,z,k9,l0⟩:=ug d b c A P S (10000 - d) m f us 0 (by grind) (by grind);rw[mH k6 k7 s]at y z;have l1:f.extract 0 (0+L.size)=f:=by rw[a7X,t,<-k4];simp
   have l2:us.extract 0 (0+L.size)=us:=by rw[a7X,t,<-k5];simp
   rw[l1]at y;rw[l2]at z;simp only[Result.ok.injEq,and_true]at y z;subst y;subst z;rw[show 10000 - d+d=10000 by omega]at k9;have l3:k8=peq (.agg p) (.agg r):=by rw[a9W,so,l0,a9F,a9F,k2,k3];grind[Λ,R.agg.injEq,List.map_inj_right]
   subst l3;cases C
   .refine .same V ?_ (.v _ rfl) (by simpa using W);simp_all [execOp,run_eqGuard_agg,run_eql_struct]
   .refine .same V ?_ (.v _ rfl) (by simpa using W);simp_all [execOp,run_eqGuard_agg,run_neq_struct]
def K1(p:Bool)(f:TypeId)(h k:Operand)(L:TypeId)(r:o.op=.binOp (if p then .neq else .eql) f h k L)(P:q.underlying f=γ .bool)(S:aQ h=ζ)(T:aQ k=ζ)(x:bI v a l)(y:Holds v g m)
  (b:G ⟨q,u⟩ (.qO p h k) l g b2):bM q u o a m v g b2:=by
 have z:=x.ai h S;have C:=x.ai k T;simp only[G]at b;split at b
 case h_2=>exact b.elim
 rename_i c d V W;rw[V]at z;rw[W]at C;have D:=z.dy;have E:=C.dy;have F:(Op.equalIn 10000 f (.bool c) (.bool d)).run q m=.ok (c==d) m:=run_equalIn_bool' m 9999 f c d P;cases p
 .exact .same y (v:=.bool (c==d)) (by simp[execOp,r,D,E,eqGuard,binOp,Op.equal,Op.maxDepth,F]) (.v _ rfl) (by simpa using b)
 .exact .same y (v:=.bool (!(c==d))) (by simp[execOp,r,D,E,eqGuard,binOp,Op.equal,Op.maxDepth,F]) (.v _ rfl) (by simpa using b)
def K2(x:Bool)(c:TypeId)(y E:Operand)(W:TypeId)(f:o.op=.binOp (if x then .neq else .eql) c y E W)(L:TypeId)(P:q.underlying c=γ (.pointer L))(S:TypeInfo)(w:q.info? L=γ S)(A:S.size≠0)(e:aQ y=ζ)(i:aQ E=ζ)(T:bI v a l)(h:Holds v g m)
  (k:G ⟨q,u⟩ (.qN x y E) l g b2):bM q u o a m v g b2:=by
 have d:=T.ai y e;have p:=T.ai E i;have j:q.pointee c=L:=by simp[Program.pointee,P]
 have n:q.underlying c=γ (.pointer (q.pointee c)):=by rw[j];exact P
 have r:∀F:Option Addr,(Op.equalIn 10000 c (.pointer F) (.pointer η)).run q m=.ok F.isNone m:=λF=>run_equalIn_pointer_nil m 9999 c F n;simp only[G]at k;split at k
 .rename_i B s z C;rw[z]at d;rw[C]at p;have D:=d.kc;have b:=p.dy;cases x
  .exact .same h (by simp[execOp,f,D,b,eqGuard,binOp,Op.equal,Op.maxDepth,r]) (.v _ rfl) k
  .exact .same h (by simp[execOp,f,D,b,eqGuard,binOp,Op.equal,Op.maxDepth,r]) (.v _ rfl) k
 .rename_i t z C;rw[z]at d;rw[C]at p;have b:=p.dy;generalize V:a.eval y=H at d;cases d with
  |c4 I s K t M hH N=>
   cases x
   .exact .same h (by simp[execOp,f,V,b,eqGuard,binOp,Op.equal,Op.maxDepth,r]) (.v _ rfl) k
   .exact .same h (by simp[execOp,f,V,b,eqGuard,binOp,Op.equal,Op.maxDepth,r]) (.v _ rfl) k
 .rename_i z C;rw[z]at d;rw[C]at p;have D:=d.dy;have b:=p.dy;cases x
  .exact .same h (v:=.bool ζ) (by simp[execOp,f,D,b,eqGuard,binOp,Op.equal,Op.maxDepth,r]) (.v _ rfl) (by trivial)
  .exact .same h (v:=.bool κ) (by simp[execOp,f,D,b,eqGuard,binOp,Op.equal,Op.maxDepth,r]) (.v _ rfl) (by trivial)
 .trivial
theorem K3(b:FuncId)(c:Func)(args:Array Operand)(x:Array TypeId)(y:o.op=.call {callee:=.value (.func b),args,argTypes:=x})(z:q.funcs[b]?=γ c)(C:c.body.isSome) (D:c.name≠ "runtime.NumGoroutine")
  (E:∀f∈args.toList,aQ f=ζ) (F:bI v a l) (p:Holds v g m) (L:G ⟨q,u⟩ (.gv b args.toList) l g b2):bM q u o a m v g b2:=by
 intro e i;have P:bp v (args.map a.eval) (args.toList.map (ai l)):=by
  refine bp.ee.2 ⟨σ,λS f T d h=>?_⟩;rw[aa3,a7Z]at d;rw[a7Z]at h;cases k:args.toList[S]? with
  |none=>simp[k]at d
  |some op=>
   rw[k]at d h;obtain rfl:a.eval op=f:=by simpa using d
   obtain rfl:ai l op=T:=by simpa using h
   exact F.ai op (E op (a7C k))
 have V:=L (args.map a.eval) m v P p;have W:(execOp a.eval o).run q m=.ok (.enter b (args.map a.eval)) m:=by
  cases r:c.body with
  |none=>simp[r]at C
  |some j=>simp[execOp,y,resolve,Act.eval,Deferred.ofValue,invoke,callFunc,z,D,r]
 unfold Oper.wp;rw[W];exact V.mono λn s p=>by
  grind
end
variable{N j2:Int}
section
variable{o:Oper}{a:Act}
def valOf(b:Act)(c:Option Operand):Option Value:=c.map b.eval
theorem gJ(f:bI v a l){b:Option Operand}(k:b.all aQ=ζ)(c:dF l b e=γ N):(b=η/\N=e)\/∃d,valOf a b=γ (.int d N):=by
 cases b with
 |none=>left;simp only[dF,a7G]at c;simp_all
 |some b=>
  right;simp only[dF]at c;split at c
  .rename_i d p h;obtain rfl:=Δ c;have:=f.ai b (by trivial);rw[h]at this;exact⟨d,by simp[valOf,this.dy]⟩
  .cases c
theorem Bs(y:Bool)(d f:Nat)(h k:Option Operand)(c b:Int)(z:(h=η/\c=0)\/∃p,valOf a h=γ (.int p c))(C:(k=η/\b=d)\/∃p,valOf a k=γ (.int p b))
  (D:0<=c) (E:c<=b) (S:b<=d) (T:d<=f) (r:World):(Instr.sliceBounds y d f (valOf a h) (valOf a k) η).run q r=.ok (c.toNat,b.toNat,f) r:=by
 have V:(b.toNat)=b:=a9g ε;have F:b<=(f):=ε;have G:0<=b:=ε;have x:valOf a η=none:=rfl;rcases z with⟨rfl,rfl⟩|⟨W,L⟩<;>rcases C with⟨rfl,rfl⟩|⟨e,P⟩
 .rfl
 .simp only[Instr.sliceBounds,x,P];simp[run_sliceBound,F,G]
 .simp only[Instr.sliceBounds,x,L];simp[run_sliceBound,D,E]
 simp_all [Instr.sliceBounds,run_sliceBound]
theorem K4(k7:TypeId)(z:Operand)(C e:Option Operand)(n5:o.op=.slice k7 z C e η)(k:TypeId)(l2:q.underlying k7=γ (.slice k))(D:Nat)(K:(q.info? k).map (·.size)=γ D)(l3:aQ z=ζ)(M:C.all aQ=ζ)(N:e.all aQ=ζ)
  (L:bI v a l) (O:Holds v g m) (E:G ⟨q,u⟩ (.pC D z C e) l g b2):bM q u o a m v g b2:=by
 have p:=L.ai z l3;have Q:∀(r)(len d:Nat)(c b:Int),((C=η/\c=0)\/∃X,valOf a C=γ (.int X c))->((e=η/\b=len)\/∃X,valOf a e=γ (.int X b))->0<=c->c<=b->b<=len->len<=d->
   a.eval z=.slice r len d->(execOp a.eval o).run q m=.ok (.value (sliced r c.toNat b.toNat d D)) m:=by
  intro r len d c b w P S T F k8 i;have l4:=Bs (q:=q) ζ len d C e c b w P S T F k8 m;simp only[valOf]at l4;cases l5:q.info? k with
  |none=>simp[l5]at K
  |some ii=>simp_all [execOp,Instr.sliceAt,Instr.slice,run_underlying,sizeOf,typeInfo,sliced]
 simp only[G]at E;split at E
 .rename_i f k9 x;rw[x]at p;split at E
  case h_2=>trivial
  rename_i c b y V;obtain⟨S,T,F,n9,j⟩:=E;have w:=gJ L M y;have P:=gJ L N V;generalize i:a.eval z=A at p;have l6:∃r d,A=.slice r (β f) d/\β f<=d:=by
   cases p with
   |dk r d=>simp
   |J Y B len d D Z f k9 K k2 W=>grind
  obtain⟨r,d,k3,W⟩:=l6;have n:=Q r (β f) d c b (by trivial) P S T F W (by rw[i,k3]);refine .same O n ?_ j;have l7:aW v (sliced r c.toNat b.toNat d D) (.J ((f.take b.toNat).drop c.toNat) .any):=by
   by_cases l8:c.toNat=b.toNat
   .have k:(f.take b.toNat).drop c.toNat=[]:=by rw[List.drop_eq_nil_iff];simp;omega
    rw[k,l8];unfold sliced;rw[a9U];refine .dk _ _ _ (λl9=>?_) trivial;split at l9
    .omega
    .cases p with
     |dk a00 l0 a01 bQ=>simp_all
     |J Y B len l0 h Z f k9 K k2 W=>simp_all
   .have l1:f≠[]:=by rintro rfl;simp at F;omega
    obtain⟨Y,B,l0,h,Z,k4,n0,a02,k5,a03,n2,a04,_⟩:=p.x2 l1;rw[k3]at k4;simp only[Value.slice.injEq]at k4;obtain⟨rfl,_,rfl⟩:=k4;obtain rfl:h=D:=by
     match f,l1 with
     |dG::f,_=>simp_all
    unfold sliced;rw[if_neg ε,a8z,hM];have n3:∀k∈(f.take b.toNat).drop c.toNat,β k.cells=h:=λk x=>k5 k (a7J (a7U x));have a05:flat ((f.take b.toNat).drop c.toNat)=((flat f).take (b.toNat*h)).drop (c.toNat*h):=by rw[(gx b.toNat k5).2,(gx c.toNat (λk x=>k5 k (a7J x))).1]
    have k2:((f.take b.toNat).drop c.toNat).length=b.toNat - c.toNat:=Ι;refine .J Y _ _ _ h (λH=>Z (c.toNat*h+H)) _ .any n0 k2.symm ε n3 (λa06 k8=>?_) (λH a07=>?_) (λH a08 l2=>?_) trivial;grind
    .rw[aaZ];refine n2 _ ?_;have:c.toNat*h+H<b.toNat*h:=by
      have k:b.toNat*h=c.toNat*h+(b.toNat - c.toNat)*h:=by rw[<-a8D];congr 1;omega
      omega
     exact a8F this (a7N _ ε)
    grind
  unfold wW;split
  .simp only[dF,a7G]at y V;subst y;subst V;have:(f.take ((β f:Int)).toNat).drop ((0:Nat):Int).toNat=f:=σ;rw[this];have n4:sliced r ((0:Nat):Int).toNat ((β f):Int).toNat d D=A:=by rw[k3];unfold sliced;simp_all [Addr.add]
   rw[n4];exact p
  .exact l7
 .rename_i s B t d h x;rw[x]at p;split at E
  case h_2=>trivial
  rename_i c b y V;obtain⟨rfl,S,T,F,k6,j⟩:=E;have w:=gJ L M y;have P:=gJ L N V;generalize i:a.eval z=A at p;cases p with
  |bC s B t d D I W=>have n:=Q _ t d c b (by trivial) P S T F W i;refine .same O n ?_ j;unfold sliced;rw[if_neg ε,a8z,hM];exact .bC _ _ _ _ _ I ε
 .rename_i s t d h x;rw[x]at p;split at E
  case h_2=>trivial
  rename_i c b y V;obtain⟨rfl,S,T,F,k6,j⟩:=E;have w:=gJ L M y;have P:=gJ L N V;generalize i:a.eval z=A at p;cases p with
  |ar s t d h I W=>
   have n:=Q _ t d c b (by trivial) P S T F W i;refine .same O n ?_ j;cases C with
   |none=>
    simp only[dF,a7G]at y;subst y;simp only[a9t,sw,a8x,if_false];have:sliced (γ ⟨s,0,η⟩) ((0:Nat):Int).toNat b.toNat d h=.slice (γ ⟨s,0,η⟩) b.toNat d:=by unfold sliced;simp[Addr.add]
    rw[this];exact .ar _ _ _ _ I ε
   |some C=>simp only[a9V,sw,if_true];have k6:=k6 rfl;unfold sliced;rw[if_neg ε,a8z,hM,a7X];exact .bC _ _ _ _ _ I ε
 .trivial
theorem x4(y:0<e)(f:i*e<=β j)(z:∀h∈j,h.one=ζ):(∀b∈eZ e i j,β b.cells=e)/\flat (eZ e i j)=j.take (i*e)/\(eZ e i j).length=i:=by
 unfold eZ;split
 .rename_i k;subst k;rw[a8m]at f|-;have C:∀b:R,b.one=ζ->b.cells=[b]:=λb d=>by cases b<;>first|rfl|(simp[R.one]at d)
  refine⟨λb d=>by grind,?_,Ι⟩;have:∀c:ύ,(∀b∈c,b.one=ζ)->flat c=c:=by
   intro c
   induction c with
   |nil=>intro _;rfl
   |cons D c ih=>grind[flat,List.mem_cons_self,List.mem_cons_of_mem]
  grind
 .refine⟨λb d=>?_,?_,σ⟩
  .obtain⟨p,r,rfl⟩:=a7M.1 d;have x:=a8B.1 r;have:(p+1)*e<=i*e:=a7N _ x;grind[R.cells,List.length_take,List.length_drop,Nat.add_mul]
  .clear f
   induction i with
   |zero=>simp[flat]
   |succ i ih=>rw[a9r,a8r];simp only[flat,a8A,a7O,a8R,a7R,aas,a8u,R.cells]at ih|-;rw[ih,a8D,aax,List.take_add]
theorem Bt(b:g e=γ (.ro j)):g.set e (.ro j)=g:=by grind[U.ah,U.al]
def Step.K5(d:Holds v g m)(b:g.read e=γ j):∃h,Step v g m h (g.set e (.ro j)) m:=by
 unfold U.read at b;split at b
 .rename_i f c;obtain rfl:=Δ b;exact Step.freeze d c
 .rename_i f c;obtain rfl:=Δ b;rw[Bt c];exact⟨v,.refl d⟩
 .rename_i T f c;obtain rfl:=Δ b;exact Step.wU d (.inr (.inl ⟨T,c⟩))
 .rename_i f c;obtain rfl:=Δ b;exact Step.wU d (.inr (.inr c))
 .cases b
theorem Bu(S:TypeId)(r:Operand)(x y:Option Operand)(l1:o.op=.slice S r x y η)(f:Nat)(p:TypeId)(k:q.underlying S=γ (.array f p))(b:Nat)(w:(q.info? p).map (·.size)=γ b)(E:0<b)(V:Bool)(A:aQ r=ζ)(B:x.all aQ=ζ)
  (H:y.all aQ=ζ) (F:bI v a l) (L:Holds v g m) (c:G ⟨q,u⟩ (.mA b f r x y V) l g b2):bM q u o a m v g b2:=by
 have W:=F.ai r A;simp only[G]at c;split at c
 case h_2=>trivial
 rename_i z C I;rw[I]at W;split at c
 case h_2=>trivial
 rename_i d h K M;obtain⟨N,O,Q,c⟩:=c;split at c
 case h_2=>trivial
 rename_i X e;obtain⟨l2,c⟩:=c;have l3:=W.kc;have Y:=Bs (q:=q) κ f f x y d h (by simpa using gJ F B K) (gJ F H M) N O Q (Χ _) m;simp only[valOf]at Y;obtain⟨Z,l4,T,l5,l6,l7⟩:=L.read e;have i:(execOp a.eval o).run q m=.ok (.value (.slice (γ (if f=d.toNat then⟨z,C,η⟩else⟨z,C+d.toNat*b,η⟩)) (h.toNat - d.toNat) (f - d.toNat))) m:=by
  cases k2:q.info? p with
  |none=>simp[k2]at w
  |some ii=>simp_all [execOp,Instr.sliceAt,run_underlying,Instr.sureAddr,sizeOf,typeInfo,hM]
 cases V with
 |true=>
  simp only[if_true]at c;obtain⟨l8,j⟩:=Step.K5 L e;refine .value i j ?_ c;obtain⟨_,k3,l9,_,n0,n,k4⟩:=j.holds.dN z _ (U.ah _ _ _);have n2:h.toNat*b<=f*b:=a7N _ ε;have n3:(h.toNat - d.toNat)*b+d.toNat*b=h.toNat*b:=by rw[<-a8D];congr 1;omega
  have k5:∀D∈X.drop (C+d.toNat*b),D.one=true:=λD s=>Z D (a7U s);obtain⟨k6,k7,t⟩:=x4 (i:=h.toNat - d.toNat) E Ι k5;by_cases k8:d.toNat=h.toNat
  .have p:=a7y (by rw[t];omega);rw[p,k8,a9U];exact .dk _ _ _ (λk9=>by simp at k9) trivial
  .rw[if_neg ε];refine .J z _ _ _ b (λP=>k3.getD (C+d.toNat*b+P) undef) _ .any E t.symm ε k6 (λD s=>?_) (λP n4=>?_) (λP l0 k=>?_) trivial;grind
   .refine k4 _ ?_;have:=n.1;omega
   .rw[k7,List.getElem?_take]at k;split at k
    .rw[aae]at k;exact n.2 _ l0 k
    .cases k
 |false=>simp only[a8x,if_false]at c;refine .same L i ?_ c.2;rw[if_neg ε];exact .bC _ _ _ _ _ E ε
theorem Bv(f:List Value):∀(b c:Nat)(d:Array Value),c+b+β f<=d.size->
  (f.zipIdx b).foldl (λ(p:Array Value) (h:Value×Nat)=>p.setIfInBounds (c+h.2) h.1) d=dm d (c+b) f:=by
 induction f with
 |nil=>intro b c d k;apply aby;simp[dm]
 |cons x f ih=>
  intro b c d k;simp only[a7I]at k;rw[List.zipIdx_cons,a8j,ih (b+1) c _ Ι];apply aby
  simp only[dm,Array.toList_setIfInBounds,a7I];have r:c+b<β d.toList:=Ι;rw[a8N,if_pos r];have y:(d.toList.take (c+b)).length=c+b:=by simp only[a7z];omega
  rw[show c+(b+1)=(d.toList.take (c+b)).length+1 by omega,aap];rw[show(d.toList.take (c+b)).length+1+β f=(d.toList.take (c+b)).length+(β f+1) by omega,aaq];grind[List.append_assoc,List.drop_drop]
theorem Bw(E:Nat->Option (Nat×Nat))(z:bf):∀(p:List (Nat×Operand))(res:List (Nat×Nat×Operand))(b:Array Value)(c:ύ)(r:ύ->Prop),
  β p=β res->(∀(k:Nat)(d:Nat×Operand)(f:Nat×Nat×Operand),p[k]?=γ d->res[k]?=γ f->E d.1=γ (f.1,f.2.1)/\d.2=f.2.2/\aQ d.2=ζ/\0<f.2.1)->bI z a l->bp z b c->(∀x∈c,x.one=ζ)->kN l c res r->
  ∃C y,Instr.fill E b (p.map λd=>(d.1,a.eval d.2))=γ C/\bp z C y/\(∀x∈y,x.one=ζ)/\r y
 |[],[],b,c,r,_,_,_,D,F,G=>⟨b,c,rfl,D,F,G⟩
 |(t,h)::p,(off,ch,u)::res,b,c,r,e,L,P,D,F,G=>by
  obtain⟨S,T,V,g⟩:=L 0 _ _ rfl rfl;simp only at S T V g;subst T;obtain⟨i,v,j⟩:=G;obtain⟨W,c2⟩:=(P.ai h V).cells ε;have w:(a.eval h).cells.size=ch:=by rw[W.1,i]
  obtain⟨C,y,m,n,q,s⟩:=Bw E z p res (dm b off (a.eval h).cells.toList) (putAt c off (ai l h).cells) r (by simpa using e) (λk d f A B=>L (k+1) d f (by trivial) (by trivial)) P
   (D.putAt W off ε) (ud F c2 off) j
  refine⟨C,y,?_,n,q,s⟩;simp only[a7O,Instr.fill,S];have H:off+(a.eval h).cells.size<=b.size:=by have:=D.1;omega
  rw[if_neg Ι];rw[show(a.eval h).cells.zipIdx.foldl (λc (x,k)=>c.setIfInBounds (off+k) x) b=dm b off (a.eval h).cells.toList by
   rw[<-Array.foldl_toList,abD];simp_all [Bv]]
  exact m
def K6(h:TypeId)(c:Array (Nat×Operand))(C:o.op=.build h c)(r:Nat->Option (Nat×Nat))(b:Array Value)(k:List (Nat×Nat×Operand))
  (D:∀x:List (Nat×Value),q.built h x=Instr.fill r b x) (E:∀d∈b.toList,d.oneCell'=ζ) (F:β c.toList=β k)
  (L:∀(y:Nat)(p:Nat×Operand)(f:Nat×Nat×Operand),c.toList[y]?=γ p->k[y]?=γ f->r p.1=γ (f.1,f.2.1)/\p.2=f.2.2/\aQ p.2=ζ/\0<f.2.1)
  (P:bI v a l) (S:Holds v g m) (T:G ⟨q,u⟩ (.mz (b.toList.map dt) k) l g b2):bM q u o a m v g b2:=by
 obtain⟨V,w,W,z,e,i⟩:=Bw r v c.toList k b (b.toList.map dt) (λj=>b2 (.agg j) g) F L P (bp.pB v b E) (λA n=>by obtain⟨d,_,rfl⟩:=a7M.1 n;exact oE d) T;have s:q.built h (c.map λ(t,d)=>(t,a.eval d)).toList=γ V:=by rw[D,aa3];exact W
 exact .same S (by simp only[execOp,C,Sem.run_bind,run_build m h _ _ s];rfl) (.agg _ _ e z.1 z.2) i
theorem x5{b:Nat}(S:0<b):∀(k:List Operand)(c:Nat)(h:Array Value)(d:ύ),(∀f∈k,aQ f=ζ)->bI v a l->bp v h d->(∀p∈d,p.one=ζ)->(∀z∈k.map (ai l),β z.cells=b)->β d=(c+β k)*b->
  ∃x r,Instr.fill (λc=>γ (c*b,b)) h ((k.zipIdx c).map λD=>(D.2,a.eval D.1))=γ x/\bp v x r/\(∀p∈r,p.one=ζ)/\r=d.take (c*b)++flat (k.map (ai l))
 |[],c,h,d,_,_,y,C,_,hlen=>⟨h,d,rfl,y,C,by simp[flat];grind⟩
 |f::k,c,h,d,E,F,y,C,G,hlen=>by
  have T:(ai l f).cells.length=b:=G _ σ;obtain⟨L,c2⟩:=(F.ai f (E f σ)).cells ε;have n:(a.eval f).cells.size=b:=by rw[L.1,T]
  simp only[a7I]at hlen;have q:c*b+b<=β d:=by grind
  obtain⟨x,r,V,W,e,g⟩:=x5 S k (c+1) (dm h (c*b) (a.eval f).cells.toList) (putAt d (c*b) (ai l f).cells) (λi j=>E i (by simp[j])) F (y.putAt L _ ε) (ud C c2 _)
   (λz P=>G z (by simp at P|-;exact .inr P)) (by grind[eY])
  refine⟨x,r,?_,W,e,?_⟩
  .simp only[List.zipIdx_cons,a7O,Instr.fill];have s:c*b+(a.eval f).cells.size<=h.size:=by have:=y.1;omega
   rw[if_neg Ι];rw[show(a.eval f).cells.zipIdx.foldl (λd (p,m)=>d.setIfInBounds (c*b+m) p) h=dm h (c*b) (a.eval f).cells.toList by
    rw[<-Array.foldl_toList,abD];simp_all [Bv]]
   exact V
  .rw[g];simp only[putAt,flat,a7O,a7R];have t:(d.take (c*b)++(ai l f).cells).length=(c+1)*b:=by rw[a8D];simp;omega
   grind
def Bx(z:TypeId)(c:Nat)(C:Array (Nat×Value))(f:TypeId)(F:q.underlying z=γ (.slice f))(b:TypeInfo)(D:q.info? f=γ b)(p:Value)(G:b.zero=γ p)(T:c*b.size<=2^24)(r:Array Value)(k:r=if c*b.size=0 then #[]else p.cells)
  (E:Array Value) (x:Instr.fill (λy=>γ (y*b.size,b.size)) ((Array.range (c*b.size)).map (λy=>r[y%r.size]!)) C.toList=γ E) (d:World):
  (Instr.buildSlice z c C).run q d=.ok (.slice (γ ⟨d.heap.size,0,η⟩) c c) (d.alloc (.cells E f)):=by
 have L:¬(c*b.size>2^24):=ε;have P:(sizeOf f).run q d=.ok b.size d:=by simp[sizeOf,typeInfo,D]
 have S:(zeroValue f).run q d=.ok p d:=by simp[zeroValue,typeInfo,D,G]
 unfold Instr.buildSlice;simp only[Sem.run_bind,run_underlying F,Result.andThen_ok,P];rw[if_neg L];by_cases h:c*b.size=0
 .rw[if_pos h]at k;subst k;simp only[h,if_true];rw[h]at x;rw[Sem.run_bind];simp only[Sem.run_pure,Result.andThen_ok,x];rfl
 .rw[if_neg h]at k;subst k;simp only[h,if_false];rw[Sem.run_bind];simp only[S,Result.andThen_ok];rw[Sem.run_bind];simp only[Sem.run_pure,Result.andThen_ok,x];rfl
theorem Bz{T:bf}(i:TypeId)(c:Nat)(P:Array (Nat×Operand))(p:o.op=.buildSlice i c P)(r:TypeId)(j:q.underlying i=γ (.slice r))(b:TypeInfo)(M:q.info? r=γ b)(C:Value)(N:b.zero=γ C)(k9:C.cells.size=b.size)(l0:∀d∈C.cells.toList,d.oneCell'=ζ)
  (S:0<b.size) (O:c*b.size<=2^24) (h:List Operand) (l1:P.toList=(h.zipIdx 0).map λE=>(E.2,E.1)) (D:β h=c) (Q:∀d∈h,aQ d=ζ)
  (X:bI T a l) (y:Holds T g m) (z:G ⟨q,u⟩ (.kH b.size h) l g b2):bM q u o a m T g b2:=by
 simp only[G]at z;obtain⟨n,z⟩:=z
 let hN:Array Value:=if c*b.size=0 then #[]else C.cells
 let x:Array Value:=(Array.range (c*b.size)).map (λf=>hN[f%hN.size]!);have Y:∀d∈x.toList,d.oneCell'=true:=by
  intro d s;by_cases F:c*b.size=0
  .simp[x,F]at s
  .have l2:hN=C.cells:=if_neg F;simp only[x,aa3,a7M]at s;obtain⟨f,_,rfl⟩:=s;grind[Nat.mod_lt]
 have Z:x.size=c*b.size:=by simp[x]
 obtain⟨k,l3,k2,B,k3,V⟩:=x5 S h 0 x (x.toList.map dt) Q X (bp.pB T x Y) (λH t=>by obtain⟨d,_,rfl⟩:=a7M.1 t;exact oE d) n (by simp[Z,D]);simp only[aaM,a9o,a7T]at V;have k4:(P.map λ(f,d)=>(f,a.eval d)).toList=(h.zipIdx 0).map λE=>(E.2,a.eval E.1):=by simp_all
 have I:(execOp a.eval o).run q m=.ok (.value (.slice (γ ⟨m.heap.size,0,η⟩) c c)) (m.alloc (.cells k r)):=by have:=Bx i c (P.map λ(f,d)=>(f,a.eval d)) r j b M C N O hN rfl k (by rw[k4];exact k2) m;simp only[execOp,p,Sem.run_bind,this];rfl
 by_cases F:β h=0
 .rw[if_pos F]at z;have k5:c=0:=ε;subst k5;refine .value I (b:=T.ext m.heap.size 0 k) ?_ (.dk _ _ .zero (λl4=>by rfl) rfl) z;have W:=Step.write (j4:=m.alloc (.cells k r)) y m.heap.size 0 k r g rfl rfl rfl σ (heap_alloc_new m _) (λw _ A=>qF m _ w A) (.inl rfl)
   (a7Y _) (λo v L=>by rw[y.nt]at L;cases L) (λk6 o K e=>e)
   (λo p=>by rw[y.eD]at p;cases p)
  exact W
 .rw[if_neg F]at z;have k7:k.size=c*b.size:=by rw[B.1,V,dg n];simp[D]
  have W:=Step.write (j4:=m.alloc (.cells k r)) y m.heap.size (c*b.size) k r (g.set m.heap.size (.buf b.size (β h) (β h))) rfl rfl rfl σ (heap_alloc_new m _) (λw _ A=>qF m _ w A) (.inl rfl)
   ε (λo v L=>by rw[y.nt]at L;cases L) (λk6 o K e=>by rw[U.al _ _ K]at e;exact e)
   (λo p=>by
    rw[U.ah]at p;obtain rfl:=Δ p;refine⟨S,Χ _,?_,k,r,heap_alloc_new m _,by rw[k7,D],λo p=>?_⟩
    .have:β h*1<=c*b.size:=by rw[D];exact abE _ S
     unfold maxLen;omega
    .rw[bf.pA _ _ _ _ (by rw[D]at p;omega)];exact y.nt o)
  refine .value I W ?_ (z _ y.eD);refine .J _ _ _ _ b.size (λf=>k.getD f undef) _ _ S (by simp[D]) ε n (λH t=>k3 H (by rw[V];exact t)) (λf l5=>?_) (λf k8 j=>?_) ⟨rfl,rfl,ε⟩;simp_all [bf.pz]
  .exact((B.2 f k8 (by rw[V];exact j))).mono W.le
theorem K7(D:TypeId)(d:Nat)(y:Array (Nat×Operand))(T:o.op=.buildSlice D d y)(p:TypeId)(V:q.underlying D=γ (.slice p))(b:TypeInfo)(W:q.info? p=γ b)(k:Value)(e:b.zero=γ k)(w:k.cells.size=b.size)(A:∀c∈k.cells.toList,c.oneCell'=ζ)
  (E:0<b.size) (i:d*b.size<=2^24) (f:List Operand) (B:y.toList=(f.zipIdx 0).map λz=>(z.2,z.1)) (F:β f=d) (j:∀c∈f,aQ c=ζ)
  (n:bI v a l) (L:Holds v g m) (r:G ⟨q,u⟩ (.kK b.size f) l g b2):bM q u o a m v g b2:=by
 simp only[G]at r;obtain⟨H,r⟩:=r;by_cases C:β f=0
 .rw[if_pos C]at r;refine Bz D d y T p V b W k e w A E i f B F j n L ?_;simp_all [G]
 rw[if_neg C]at r
 let hN:Array Value:=if d*b.size=0 then #[]else k.cells
 let h:Array Value:=(Array.range (d*b.size)).map (λx=>hN[x%hN.size]!);have I:∀c∈h.toList,c.oneCell'=true:=by
  intro c P;by_cases C:d*b.size=0
  .simp[h,C]at P
  .have Y:hN=k.cells:=if_neg C;simp only[h,aa3,a7M]at P;obtain⟨x,_,rfl⟩:=P;grind[Nat.mod_lt]
 have K:h.size=d*b.size:=by simp[h]
 obtain⟨S,Z,M,N,k2,s⟩:=x5 E f 0 h (h.toList.map dt) j n (bp.pB v h I) (λO t=>by obtain⟨c,_,rfl⟩:=a7M.1 t;exact oE c) H (by simp[K,F]);simp only[aaM,a9o,a7T]at s;have Q:(y.map λ(x,c)=>(x,a.eval c)).toList=(f.zipIdx 0).map λz=>(z.2,a.eval z.1):=by simp_all
 have X:(execOp a.eval o).run q m=.ok (.value (.slice (γ ⟨m.heap.size,0,η⟩) d d)) (m.alloc (.cells S p)):=by have:=Bx D d (y.map λ(x,c)=>(x,a.eval c)) p V b W k e i hN rfl S (by rw[Q];exact M) m;simp only[execOp,T,Sem.run_bind,this];rfl
 subst F;refine .value X (Step.new L S p _ (λO t=>?_) ?_) (.ar _ _ _ _ E (Χ _)) (r _ L.eD)
 .simp_all
 .rw[<-s];exact N
end
section
variable{o:Oper}{a:Act}
theorem aW.src{C:bf}(T:aW C e8 (.J j a7))(V:Holds C g m)(D:∀W∈j,β W.cells=e)(E:Program):
  ∃r:List Value,Src E m e (β j) e8 r/\β r=(flat j).length/\(∀b c,(flat j)[b]?=γ c->aW C (r.getD b Go.undef) c)/\(∀x∈flat j,x.one=ζ):=by
 cases T with
 |dk d cap a7 bQ i=>
  refine⟨[],⟨rfl,?_,?_,σ⟩,rfl,λb c F=>by trivial,λx k=>by trivial⟩
  .cases d<;>simp[Builtin.firstCells,loadCells,loadCellsFrom]
  .cases d<;>simp[Builtin.firstCells,loadCells,loadCellsFrom]
 |J G off len cap f y xs a7 hk z t l n hH u i=>
  subst z;cases p:j with
  |nil=>subst p;refine⟨[],⟨rfl,?_,?_,σ⟩,rfl,λb c F=>by trivial,λx k=>by trivial⟩<;>simp[Builtin.firstCells,loadCells,loadCellsFrom]
  |cons L w=>
   rw[<-p];have q:=(l L (by simp[p])).symm.trans (D L (by simp[p]));subst q;have z:=dg D;have k:∀(h),(∀d,h.cell? d=m.cell? d)->(Builtin.firstCells f (β j) (.slice (γ ⟨G,off,η⟩) (β j) cap)).run E h=.ok ((ψ (β j*f)).map y).toArray h:=λh s=>by
    refine run_firstCells_some h f (β j) ⟨G,off,η⟩ (β j) cap _ σ (λb v P=>?_);have S:b<β j*f:=by grind
    rw[a7Z,a9Q S]at P;obtain rfl:y b=v:=by simpa using P
    rw[s,hM];exact V.ro _ _ _ (hH b S)
   refine⟨(ψ (β j*f)).map y,⟨rfl,k m (λ_=>rfl),k m.drew (λ_=>rfl),σ⟩,by simp[z],λb c F=>?_,n⟩;grind
theorem pH(b c:ύ):flat (b++c)=flat b++flat c:=by simp[flat]
def jm(b c:Operand)(d f:TypeId)(h:o.op=.call {callee:=.builtin .append,args:=#[b,c],argTypes:=#[d,f]}){v:Value}
  (k:(Builtin.append_ #[d,f] o.type #[a.eval b,a.eval c]).run q m=.ok v j4):(execOp a.eval o).run q m=.ok (.value v) j4:=by
 simp[execOp,h,resolve,invoke,builtin,k]
theorem K8{Q:bf}(j P:Operand)(p:TypeId)(k:o.op=.call {callee:=.builtin .append,args:=#[j,P],argTypes:=#[p,p]})(h:TypeId)(r:q.underlying p=γ (.slice h))(b:TypeInfo)(N:q.info? h=γ b)(B:Value)(l5:b.zero=γ B)
  (a18:B.cells.size=b.size) (O:0<b.size) (a19:aQ j=ζ) (a27:aQ P=ζ) (a02:bI Q a l) (S:Holds Q g m) (x:G ⟨q,u⟩ (.app b.size b.bytes j P) l g b2):bM q u o a m Q g b2:=by
 have e:=a02.ai j a19;have a03:=a02.ai P a27;simp only[G]at x;split at x
 case h_2=>trivial
 rename_i d H f a68 I a29;rw[I]at e;rw[a29]at a03;obtain⟨a04,l6,a30,l0,x⟩:=x;obtain⟨y,n,a69,a34,a36⟩:=a03.src S l6 q;have a38:∀E∈y,E.oneCell'=true:=λE r=>by
  obtain⟨c,F⟩:=aar r;have a05:c<(flat f).length:=by grind
  have:=a34 c _ (Τ a05);rw[a7V,F]at this;exact this.oA (a36 _ (a8b a05))
 have l7:=n.size;generalize X:a.eval j=a06 at e;have newRow:∀(k2:List Value)(V z:Nat)(s:ύ),β s=V->β k2=V*b.size->(∀h∈s,β h.cells=b.size)->(∀c E,(flat s)[c]?=γ E->aW Q (k2.getD c undef) E)->(∀D∈flat s,D.one=ζ)->
   V+β f<=z->z<=maxLen->∀l1:U,l1.sub g->
   let i:=k2.toArray++y.toArray++Builtin.zeroCells B.cells (z -(V+β f))
   ∃k3,Step Q g m k3 (l1.set m.heap.size (.buf b.size (V+β f) z)) (m.drew.alloc (.cells i h))/\aW k3 (.slice (γ ⟨m.heap.size,0,η⟩) (V+β f) z) (.J (s++f) (.buf m.heap.size z)):=by
  intro k2 V z s l8 k4 a07 a71 a08 Y a42 l1 a43 i;have l9:i.size=z*b.size:=by simp only[i,Array.size_append,List.size_toArray,size_zeroCells,a18,k4,l7,<-a8D];congr 1;omega
  have l2:i.toList=k2++y++(Builtin.zeroCells B.cells (z -(V+β f))).toList:=by simp[i]
  have l3:(flat (s++f)).length=(V+β f)*b.size:=by rw[dg (d:=b.size)];(simp[l8]);grind
  have a47:∀c E,(flat (s++f))[c]?=γ E->aW Q (i.getD c undef) E:=λc E r=>by
   rw[pH]at r;have a09:(flat s).length=V*b.size:=by rw[dg a07,l8]
   rw[a8s,<-a9h,l2];grind
  have a73:(V+β f)*b.size<=z*b.size:=a7N _ Y;have a48:=S.drew;have W:=Step.write (j4:=m.drew.alloc (.cells i h)) a48 m.heap.size ((V+β f)*b.size) i h (l1.set m.heap.size (.buf b.size (V+β f) z)) rfl rfl rfl σ (heap_alloc_new m.drew _) (λZ _ n0=>qF m.drew _ Z n0) (.inl rfl)
   ε (λo v e=>by rw[S.nt]at e;cases e) (λn2 o k5 k6=>by rw[U.al _ _ k5]at k6;exact a43 n2 o k6)
   (λo k=>by
    rw[U.ah]at k;obtain rfl:=Δ k;refine⟨O,Y,a42,i,h,heap_alloc_new m.drew _,l9,λo k=>?_⟩;rw[bf.pA _ _ _ _ ε];exact S.nt o)
  refine⟨_,(Step.drew S).trans W,?_⟩;refine .J _ _ _ _ b.size (λc=>i.getD c undef) _ _ O (by simp[l8]) Y (λh I=>by grind) (λD n3=>by
   grind[pH]) (λc F=>?_) (λc E r=>(a47 c E r).mono W.le) ⟨rfl,rfl,rfl⟩
  rw[a7X,bf.pz _ _ _ _ F];simp[show c<i.size by omega]
 cases H with
 |any=>trivial
 |nil=>
  obtain⟨rfl,x⟩:=x;have n4:a06=.slice η 0 0:=by
   cases e with
   |dk t z H bQ k=>simp only[Own.mw]at k;subst k;rw[bQ rfl]
   |J Z off len z n5 w d H O l3 Y l6 a52 hH a10 k=>trivial
  subst n4;by_cases K:f=[]
  .subst K;rw[if_pos rfl]at x;have a11:=a7y (by trivial);refine .same S (jm j P p p k ?_) (.dk _ _ .nil (λ_=>rfl) rfl) x;rw[X];have k7:=n.len;have k8:=n.cells;simp only[a7E]at k7 k8;simp[Builtin.append_,run_underlying r,sizeOf,typeInfo,N,k7,k8]
  .rw[if_neg K]at x;have a56:=a8l.2 K;have A:=qH m p p o.type h b B r _ r (.inl ⟨h,rfl⟩) N l5 η 0 0 [] σ abY (β f) (a.eval P) y n ε (by simp only[a7E]at l0;omega) (by trivial);simp only[a7X]at A;have n9:=grownCap_ge m (β f) 0 h;have k9:=grownCap_le_maxLen m (β f) 0 h (by unfold maxLen;simp only[a7E]at l0;omega);obtain⟨k3,W,M⟩:=newRow [] 0 (grownCap m (β f) 0 h) [] rfl σ (λh I=>by simp at I) (λc E r=>by trivial) (λD n3=>by trivial) ε k9 g (λ_ _ a00=>a00);simp only[a7X,a7T]at W M;refine .value (jm j P p p k (by rw[X];exact A)) W M (x _ _ S.eD)
 |zero=>
  obtain⟨rfl,x⟩:=x;have n4:∃t,a06=.slice t 0 0:=by
   cases e with
   |dk t z H bQ k=>simp only[Own.mw]at k;subst k;simp
   |J Z off len z n5 w d H O l3 Y l6 a52 hH a10 k=>trivial
  obtain⟨t,rfl⟩:=n4;by_cases K:f=[]
  .subst K;rw[if_pos rfl]at x;have a11:=a7y (by trivial);refine .same S (jm j P p p k (v:=.slice t 0 0) ?_) (.dk _ _ .zero (λ_=>rfl) rfl) x;rw[X];have k7:=n.len;have k8:=n.cells;simp only[a7E]at k7 k8;subst a11;cases t<;>simp[Builtin.append_,run_underlying r,sizeOf,typeInfo,N,k7,k8,storeCells]
  .rw[if_neg K]at x;have a56:=a8l.2 K;have A:=qH m p p o.type h b B r _ r (.inl ⟨h,rfl⟩) N l5 t 0 0 [] σ (by cases t<;>simp[Builtin.firstCells,loadCells,loadCellsFrom]) (β f) (a.eval P) y n ε (by simp only[a7E]at l0;omega) (by trivial);simp only[a7X]at A;have n9:=grownCap_ge m (β f) 0 h;have k9:=grownCap_le_maxLen m (β f) 0 h (by unfold maxLen;simp only[a7E]at l0;omega);obtain⟨k3,W,M⟩:=newRow [] 0 (grownCap m (β f) 0 h) [] rfl σ (λh I=>by simp at I) (λc E r=>by trivial) (λD n3=>by trivial) ε k9 g (λ_ _ a00=>a00);simp only[a7X,a7T]at W M;refine .value (jm j P p p k (by rw[X];exact A)) W M (x _ _ S.eD)
 |buf L D=>
  obtain⟨a13,x⟩:=x;obtain⟨_,a74,a57,C,T,a01,a14,a81⟩:=S.dN L _ a13;cases e with
  |dk t z H bQ k=>trivial
  |J Z off len z n5 w d H a83 l3 Y a07 a08 hH a10 k=>
   obtain⟨rfl,rfl,rfl⟩:=k;subst l3;have a84:β d*n5=β d*b.size:=by
    cases a86:d with
    |nil=>simp
    |cons dG a88=>simp_all
   have a15:∀c,c<β d*b.size->Q L c=γ (w c):=λc F=>by
    simp_all
   have a61:∀c,c<β d*b.size->C[c]?=γ (w c):=λc F=>by
    have:=S.ro _ _ _ (a15 c F);grind[cell_of_row]
   have a89:β d*b.size<=C.size:=by rw[a14];grind
   by_cases l4:β d+β f<=D
   .
    have a16:β d*b.size+β y<=C.size:=by rw[l7,a14,<-a8D];exact a7N _ l4
    have A:=Bl m p p o.type h b r _ r (.inl ⟨h,rfl⟩) N L (β d) D C T _ a01 (wV _) (β f) (a.eval P) y n a38 l4 a16;have l9:(dm C (β d*b.size) y).size=C.size:=by simp[dm];omega
    have l2:(dm C (β d*b.size) y).toList=C.toList.take (β d*b.size)++y++C.toList.drop (β d*b.size+β y):=by rfl
    have a90:∀c,c<β d*b.size->(dm C (β d*b.size) y)[c]?=γ (w c):=λc F=>by
     rw[<-a9h,l2,a7P,a9q Ι,a8y F,a9h];exact a61 c F
    have a09:=dg a04;have W:=Step.write (j4:=m.setRow L (dm C (β d*b.size) y)) S L ((β d+β f)*b.size) (dm C (β d*b.size) y) T ((g.del L).set L (.buf b.size (β d+β f) D)) rfl rfl rfl σ (setRow_heap m L C _ T _ a01)
     (λZ _ n0=>setRow_other m L Z _ n0) (.inr (by simp[a13])) (by rw[l9,a8D,<-l7];exact a16)
     (λo v e=>by
      grind)
     (λn2 o k5 k6=>by rw[U.al _ _ k5,U.eX _ k5]at k6;exact k6)
     (λo k=>by
      rw[U.ah]at k;obtain rfl:=Δ k;refine⟨O,l4,a57,_,T,setRow_heap m L C _ T _ a01,ε,λo k=>?_⟩;grind[bf.pA,Nat.le_trans,Nat.mul_le_mul_right])
    refine .value (jm j P p p k (by rw[X];exact A)) W ?_ (x L D (.inl rfl));refine .J _ _ _ _ b.size (λc=>(dm C (β d*b.size) y).getD c undef) _ _ O σ l4 (λh I=>by grind) (λD n3=>by
     grind[pH]) (λc F=>?_) (λc E r=>?_) ⟨rfl,rfl,rfl⟩
    .rw[a7X,bf.pz _ _ _ _ F];have:c<(dm C (β d*b.size) y).size:=by grind
     simp[this]
    .refine aW.mono W.le ?_;rw[pH]at r;by_cases F:c<β d*b.size
     .rw[a9q ε]at r;simp_all
     .rw[aau ε,a09]at r;have a62:c - β d*b.size<β y:=by grind
      have a63:(C.toList.take (β d*b.size)).length=β d*b.size:=Ι;rw[a8s,<-a9h,l2,a7P,aau ε,a63,a9q a62];grind
   .
    have k4:((ψ (β d*b.size)).map w).length=β d*b.size:=σ;have a65:(Builtin.firstCells b.size (β d) (.slice (γ ⟨L,0,η⟩) (β d) D)).run q m.drew=.ok ((ψ (β d*b.size)).map w).toArray m.drew:=by
     refine run_firstCells_some m.drew b.size (β d) ⟨L,0,η⟩ (β d) D _ k4 (λc v e=>?_);have F:c<β d*b.size:=by grind
     rw[a7Z,a9Q F]at e;obtain rfl:w c=v:=by simpa using e
     rw[hM,a7X];exact S.ro _ _ _ (a15 c F)
    have A:=qH m p p o.type h b B r _ r (.inl ⟨h,rfl⟩) N l5 (γ ⟨L,0,η⟩) (β d) D _ k4 a65 (β f) (a.eval P) y n ε ε a30;have n9:=grownCap_ge m (β d+β f) D h;have k9:=grownCap_le_maxLen m (β d+β f) D h (by unfold maxLen;omega);obtain⟨k3,W,M⟩:=newRow ((ψ (β d*b.size)).map w) (β d) (grownCap m (β d+β f) D h) d rfl k4 a04 (λc E r=>by
      grind[dg,Η,List.getD]) a08 n9 k9 (g.del L) (λn2 o k5=>by
      grind[U.iI,U.eX])
    exact .value (jm j P p p k (by rw[X];exact A)) W M (x _ _ (.inr S.eD))
theorem x6(F:aW v e8 s)(P:Holds v g m)(b:c8 g e s=γ (i,j))(C:Program):
  ∃k:List Value,Src C m e i e8 k/\β k=β j/\(∀h p,j[h]?=γ p->aW v (k.getD h Go.undef) p)/\(∀y∈j,y.one=ζ):=by
 have n:∀(x d c r)(f),g.read x=γ f->d+c*e<=β f->
   ∃k:List Value,Src C m e c (.slice (γ ⟨x,d,η⟩) c r) k/\β k=((f.drop d).take (c*e)).length/\(∀h p,((f.drop d).take (c*e))[h]?=γ p->aW v (k.getD h Go.undef) p)/\(∀y∈(f.drop d).take (c*e),y.one=ζ):=by
  intro x d c r f D G;obtain⟨q,L,T,A,B,S⟩:=P.read D;have H:=S.1;have t:((L.toList.drop d).take (c*e)).length=c*e:=Ι;have V:∀(E),(∀W,E.cell? W=m.cell? W)->(Builtin.firstCells e c (.slice (γ ⟨x,d,η⟩) c r)).run C E=.ok ((L.toList.drop d).take (c*e)).toArray E:=λE I=>by
   grind[run_firstCells_some,Η,hM,cell_of_row,List.getElem?_take_of_lt]
  refine⟨(L.toList.drop d).take (c*e),⟨rfl,V m (λ_=>rfl),V m.drew (λ_=>rfl),t⟩,Ι,λh p l=>?_,λy z=>q y (a7U (a7J z))⟩;have u:h<c*e:=by grind
  rw[a8y u,aae]at l;have:=S.2 (d+h) p l;grind[Η,List.getElem?_take_of_lt,Array.getD_eq_getD_getElem?]
 unfold c8 at b;split at b
 .rename_i K M;split at b
  case isFalse=>cases b
  rename_i N;simp only[a7G,a8Q]at b;obtain⟨rfl,rfl⟩:=b;exact F.src P (by simp_all) C
 .split at b
  case h_2=>cases b
  rename_i f D;split at b
  case isFalse=>cases b
  rename_i z;simp only[a7G,a8Q]at b;obtain⟨rfl,rfl⟩:=b;obtain⟨rfl,G⟩:=z;cases F with
  |ar x c r e hk w=>have O:=λr=>n _ 0 _ r f D (by rw[a7X];exact G);simp_all
 .split at b
  case h_2=>cases b
  rename_i f D;split at b
  case isFalse=>cases b
  rename_i z;simp only[a7G,a8Q]at b;obtain⟨rfl,rfl⟩:=b;obtain⟨rfl,G⟩:=z;cases F with
  |bC x d c r e hk w=>simp_all
 .cases b
def K9(y:aW v e8 s)(E:Holds v g m)(c:nF g e s=γ (i,j))(p:Program):
  ∃r:List Value,Src p m e i e8 r/\β r=β j/\(∀f h,j[f]?=γ h->aW v (r.getD f Go.undef) h)/\(∀z∈j,z.one=ζ):=by
 unfold nF at c;split at c
 .rename_i b;split at c
  case isFalse=>cases c
  rename_i F;simp only[a7G,a8Q]at c;obtain⟨rfl,rfl⟩:=c;subst F;obtain rfl:=y.dy;have L:β b.data.toList=b.size:=σ;have C:∀x:World,(Builtin.firstCells 1 b.size (.string b)).run p x=.ok (b.data.toList.map λd=>Value.int .u8 d.toNat).toArray x:=λx=>by
   simp only[Builtin.firstCells,Sem.run_pure];have:b.extract 0 b.size=b:=σ;rw[this];congr 1;apply aby
   simp
  refine⟨b.data.toList.map λd=>Value.int .u8 d.toNat,⟨rfl,C m,C m.drew,σ⟩,σ,λf h k=>?_,λz G=>?_⟩
  .rw[a7Z]at k;rw[a7V,a7Z];cases D:b.data.toList[f]? with
   |none=>simp[D]at k
   |some d=>
    rw[D]at k;obtain rfl:av d=h:=by simpa using k
    exact .v _ rfl
  .obtain⟨d,_,rfl⟩:=a7M.1 G;rfl
 .exact x6 y E c p
theorem BA{d:Array Value}(h:∀b∈d.toList,b.oneCell'=ζ)(f:Nat):∀b∈(Builtin.zeroCells d f).toList,b.oneCell'=true:=by intro b c;unfold Builtin.zeroCells at c;simp only[aa3,a7M]at c;obtain⟨k,p,rfl⟩:=c;grind[Nat.eq_zero_or_pos,Nat.mod_lt]
theorem BB{C:bf}(y z:Operand)(D E:TypeId)(I:TypeDesc)(Y:q.underlying E=γ I)(Z:(∃a13,I=.slice a13)\/I=.string)(e:o.op=.call {callee:=.builtin .append,args:=#[y,z],argTypes:=#[D,E]})(p:TypeId)(K:q.underlying D=γ (.slice p))(c:TypeInfo)(k2:q.info? p=γ c)(M:Value)(a02:c.zero=γ M)
    (a38:M.cells.size=c.size) (a42:∀y∈M.cells.toList,y.oneCell'=ζ) (k3:0<c.size) (a43:aQ y=ζ) (a47:aQ z=ζ) (a14:bI C a l) (P:Holds C g m) (f:G ⟨q,u⟩ (.mC c.size c.bytes y z) l g b2):bM q u o a m C g b2:=by
  have A:=a14.ai y a43;have a48:=a14.ai z a47;simp only[G]at f;split at f
  case h_2=>trivial
  rename_i h B a52;obtain⟨i,N,a03,a56,n4⟩:=K9 a48 P a52 q;have a15:∀n5∈i,n5.oneCell'=true:=λn5 K=>by
    obtain⟨S,a04⟩:=aar K;have a16:S<β B:=by grind
    have:=a56 S _ (Τ a16);rw[a7V,a04]at this;exact this.oA (n4 _ (a8b a16))
  have a18:=N.size;have a05:bp C i.toArray B:=bp.ee.2 ⟨by trivial,λS a19 n5 a89 a90=>by
    grind⟩
  generalize k4:a.eval y=a19 at A;have newRow:∀(n9:List Value)(b d:Nat)(F:ύ),β n9=b*c.size->bp C n9.toArray F->(∀j∈F,j.one=ζ)->b+h<=d->
      let x:=n9.toArray++i.toArray++Builtin.zeroCells M.cells (d -(b+h))
      ∃n:ύ,β n=(d -(b+h))*c.size/\Step C g m C (g.set m.heap.size (.cells (F++B++n))) (m.drew.alloc (.cells x p)):=by
    intro n9 b d F O l0 k5 l1 x;have a57:=BA a42 (d -(b+h));have V:=bp.pB C _ a57;refine⟨(Builtin.zeroCells M.cells (d -(b+h))).toList.map dt,by simp[size_zeroCells,a38],?_⟩;refine(Step.drew P).trans (Step.new P.drew x p _ (λj W=>?_) ?_)
    . simp only[Ψ,a7M]at W
      rcases W with (W|W)|⟨y,_,rfl⟩
      . exact k5 j W
      . exact n4 j W
      . exact oE y
    . rw[bp.ee]at l0 a05 V|-
      grind
  split at f
  . rename_i a61 a00 l2
    rw[l2]at A;obtain⟨rfl,a27,H,k6,f⟩:=f;have a62:∃Q,a19=.slice Q 0 0/\(a00=.nil->Q=η):=by
      cases A with
      |dk Q d a00 bQ e=>
        rcases a27 with rfl|rfl
        . simp only[Own.mw]at e;simp[*]
        . simp only[Own.mw]at e;simp[*]
      |J a92 L len d a29 a94 a61 a00 k3 hlen l1 a95 k5 hH a96 e=>rcases a27 with rfl|rfl<;>exact e.elim
    obtain⟨Q,rfl,a97⟩:=a62;by_cases a30:h=0
    . subst a30
      rw[if_pos rfl]at f;have a63:i=[]:=a7y (by simpa using a18);subst a63;have a65:aW C (.slice Q 0 0) (.J [] a00):=by omega
      refine .same P (jm y z D E e ?_) a65 f;rw[k4];have a68:=N.len;have a69:=N.cells;rcases Z with⟨a13,rfl⟩|rfl<;>cases Q<;>simp[Builtin.append_,run_underlying K,run_underlying Y,sizeOf,typeInfo,k2,a68,a69,storeCells]
    . rw[if_neg a30]at f
      have V:=qH m D E o.type p c M K I Y Z k2 a02 Q 0 0 [] σ (by cases Q<;>simp[Builtin.firstCells,loadCells,loadCellsFrom]) h (a.eval z) i N ε ε (by simpa using H);simp only[a7X]at V;have t:=grownCap_ge m h 0 p;have l3:=grownCap_le_maxLen m h 0 p (by unfold maxLen;omega);obtain⟨n,k7,k8⟩:=newRow [] 0 (grownCap m h 0 p) [] σ ⟨rfl,λS n5 a71=>by simp at a71⟩ (λj W=>by simp at W) ε;simp only[a7X,a7T]at k8 k7;exact .value (jm y z D E e (by rw[k4];exact V)) k8 (.ar _ _ _ _ k3 t) (f _ _ n P.eD t l3 k7)
  . rename_i r b d a34 l2
    rw[l2]at A;have a36:∀(k:ύ)(a06:ύ->bq),g.read r=γ k->a34=c.size->β k=d*c.size->(b+h)*c.bytes<=140737488355328->b+h<=9223372036854775807->
        (∀(F:ύ)(k9:Array Value),bp C k9 F->(∀j∈F,j.one=ζ)->b*c.size+β F<=β k->∃x T l4,m.heap[r]?=γ (.cells x T l4)/\(∀S,S<x.size->¬(l4.1<=S/\S<l4.2))/\x.size=β k/\Step C g m C (g.set r (a06 (putAt k (b*c.size) F))) (m.setRow r (dm x (b*c.size) k9.toList)))->
        (if b+h<=d then b2 (.ar r (b+h) d c.size) (g.set r (a06 (putAt k (b*c.size) B)))
           else∀a07 a01 n,g a07=η->b+h<=a01->a01<=maxLen->β n=(a01 -(b+h))*c.size->b2 (.ar a07 (b+h) a01 c.size) (g.set a07 (.cells (k.take (b*c.size)++B++n))))->bM q u o a m C g b2:=by
      clear f;intro k a06 w l5 X H k6 a73 f;subst l5;obtain⟨k5,x,T,l4,a74,l6⟩:=P.read w;have a81:=l6.1;cases A with
      |ar r b d a29 a83 l1=>
        have a84:b*c.size<=β k:=by rw[X];exact a7N _ l1
        by_cases s:b+h<=d
        . rw[if_pos s]at f
          have l7:b*c.size+β B<=β k:=by rw[<-a03,a18,X,<-a8D];exact a7N _ s
          obtain⟨l8,l9,a86,n0,a88,n2,n3⟩:=a73 B i.toArray a05 n4 l7;have V:=Bl m D E o.type p c K I Y Z k2 r b d l8 l9 a86 n0 a88 h (a.eval z) i N a15 s (by rw[n2,a03];exact l7);exact .value (jm y z D E e (by rw[k4];exact V)) n3 (.ar _ _ _ _ k3 s) f
        . rw[if_neg s]at f
          have O:(x.toList.take (b*c.size)).length=b*c.size:=Ι;have a08:(Builtin.firstCells c.size b (.slice (γ ⟨r,0,η⟩) b d)).run q m.drew=.ok (x.toList.take (b*c.size)).toArray m.drew:=by
            refine run_firstCells_some m.drew c.size b ⟨r,0,η⟩ b d _ O (λS v A=>?_);have a04:S<b*c.size:=by grind
            rw[hM,a7X];show m.cell? _= _;grind[cell_of_row,List.getElem?_take_of_lt]
          have V:=qH m D E o.type p c M K I Y Z k2 a02 (γ ⟨r,0,η⟩) b d _ O a08 h (a.eval z) i N ε ε H;have t:=grownCap_ge m (b+h) d p;have l3:=grownCap_le_maxLen m (b+h) d p (by unfold maxLen;omega);have l0:bp C (x.toList.take (b*c.size)).toArray (k.take (b*c.size)):=by rw[bp.ee]at l6|-;grind
          obtain⟨n,k7,k8⟩:=newRow _ b (grownCap m (b+h) d p) (k.take (b*c.size)) O l0 (λj W=>k5 j (a7J W)) t;exact .value (jm y z D E e (by rw[k4];exact V)) k8 (.ar _ _ _ _ k3 t) (f _ _ n P.eD t l3 k7)
    split at f
    . rename_i k w
      obtain⟨l5,X,H,k6,f⟩:=f;refine a36 k .cells (by simp[U.read,w]) l5 X H k6 (λF k9 a09 a10 a11=>?_) f;obtain⟨l8,l9,n0,n2,n3⟩:=Step.store P w (b*c.size) F k9 a09 a10 a11;grind
    . rename_i k w
      obtain⟨l5,X,H,k6,f⟩:=f;refine a36 k .gu (by simp[U.read,w]) l5 X H k6 (λF k9 a09 a10 a11=>?_) f;obtain⟨l8,l9,n0,n2,n3⟩:=Step.Jw P w (b*c.size) F k9 a09 a10 a11;grind
    . trivial
  . rename_i r L b d a34 l2
    rw[l2]at A;split at f
    case h_2=>trivial
    rename_i k w;obtain⟨rfl,X,H,k6,f⟩:=f;obtain⟨k5,x,T,l4,a74,l6⟩:=P.read (l:=r) (k:=k) (by simp[U.read,w]);have a81:=l6.1;cases A with
    |bC r L b d a29 a83 l1=>
      have a84:b*c.size<=d*c.size:=a7N _ l1;by_cases s:b+h<=d
      . rw[if_pos s]at f
        have l7:L+b*c.size+β B<=β k:=by have:=a7N c.size s;grind
        obtain⟨l8,l9,n0,n2,n3⟩:=Step.store P w (L+b*c.size) B i.toArray a05 n4 l7;have V:=Jz m D E o.type p c K I Y Z k2 r L b d l8 l9 _ n0 (wV _) h (a.eval z) i N a15 s (by rw[n2,a03];exact l7);exact .value (jm y z D E e (by rw[k4];exact V)) n3 (.bC _ _ _ _ _ k3 s) f
      . rw[if_neg s]at f
        have O:((x.toList.drop L).take (b*c.size)).length=b*c.size:=Ι;have a08:(Builtin.firstCells c.size b (.slice (γ ⟨r,L,η⟩) b d)).run q m.drew=.ok ((x.toList.drop L).take (b*c.size)).toArray m.drew:=by
          refine run_firstCells_some m.drew c.size b ⟨r,L,η⟩ b d _ O (λS v A=>?_);have a04:S<b*c.size:=by grind
          rw[hM];show m.cell? _= _;grind[cell_of_row,List.getElem?_take_of_lt]
        have V:=qH m D E o.type p c M K I Y Z k2 a02 (γ ⟨r,L,η⟩) b d _ O a08 h (a.eval z) i N ε ε H;have t:=grownCap_ge m (b+h) d p;have l3:=grownCap_le_maxLen m (b+h) d p (by unfold maxLen;omega);have l0:bp C ((x.toList.drop L).take (b*c.size)).toArray ((k.drop L).take (b*c.size)):=by rw[bp.ee]at l6|-;grind
        obtain⟨n,k7,k8⟩:=newRow _ b (grownCap m (b+h) d p) ((k.drop L).take (b*c.size)) O l0 (λj W=>k5 j (a7U (a7J W))) t;exact .value (jm y z D E e (by rw[k4];exact V)) k8 (.ar _ _ _ _ k3 t) (f _ _ n P.eD t l3 k7)
  . trivial
end
variable{K:Type}
section
variable{o:Oper}{a:Act}
def U.set_set(c:U)(b:Nat)(f d:bq):(c.set b f).set b d=c.set b d:=by funext h;simp only[U.set];split<;>rfl
theorem Ka(c:TypeId)(b:Operand)(p:o.op=.box c b)(r:aQ b=ζ)(x:bI v a l)(d:Holds v g m)(f:G ⟨q,u⟩ (.lG c b) l g b2):bM q u o a m v g b2:=by obtain⟨y,z⟩:=(x.ai b r).cells f.1;have h:=Step.new d (a.eval b).cells c _ z y;obtain⟨C,k⟩:=Step.freeze h.holds (U.ah g m.heap.size (.cells (ai l b).cells));rw[U.set_set]at k;refine .value ?_ (h.trans k) (.ptr _ _) (f.2 _ d.eD);simp[execOp,p,Instr.box,newVar,newRow]
theorem Kb(k:TypeId)(c:Operand)(d f:Option Operand)(x:o.op=.slice k c d f η)(p:Nat)(r:TypeId)(y:q.underlying k=γ (.array p r))(h:Nat)(z:(q.info? r).map (·.size)=γ h)(C:0<h)(D:aQ c=ζ)(E:d.all aQ=ζ)
  (F:f.all aQ=ζ) (L:bI v a l) (P:Holds v g m) (b:G ⟨q,u⟩ (.kI h p c d f) l g b2):bM q u o a m v g b2:=by
 refine Bu k c d f x p r y h z C ζ D E F L P ?_;simp only[G]at b|-;split at b
 case h_2=>trivial
 rename_i T V W;split at b
 case h_2=>trivial
 refine⟨b.1,b.2.1,b.2.2.1,?_⟩;have S:=b.2.2.2;split at S
 case h_2=>trivial
 simp_all [U.read,Bt]
theorem BC(d:Bool)(C:IntKind)(b c:Operand)(D:Array TypeId)(h:o.op=.call {callee:=.builtin (if d then .max else .min),args:=#[b,c],argTypes:=D})(E:aQ b=ζ)(F:aQ c=ζ)(k:bI v a l)(p:Holds v g m)(f:G ⟨q,u⟩ (.mB d C b c) l g b2):bM q u o a m v g b2:=by
 have r:=k.ai b E;have x:=k.ai c F;simp only[G]at f;split at f
 case h_2=>trivial
 rename_i S T V W L P;rw[L]at r;rw[P]at x;have y:=r.dy;have z:=x.dy;obtain⟨rfl,e⟩:=f;cases d
 .refine .same p ?_ (.v _ rfl) (by trivial);simp only[execOp,h,resolve,invoke,builtin,a8x,if_false,Sem.run_bind,Sem.run_pure,Result.andThen_ok,List.map_toArray,a7O,a8R,y,z,run_min_int2];grind
 .refine .same p ?_ (.v _ rfl) (by trivial);simp only[execOp,h,resolve,invoke,builtin,if_true,Sem.run_bind,Sem.run_pure,Result.andThen_ok,List.map_toArray,a7O,a8R,y,z,run_max_int2];grind
def BD:∀ {f:ύ}{d:ϊ},bytesOf f=γ d->f=d.map av
 |[],d,b=>by simp only[bytesOf,a7G]at b;subst b;rfl
 |p::f,d,b=>by
  simp only[bytesOf]at b;split at b
  case h_2=>cases b
  rename_i r aN c h;obtain rfl:=Δ b;rw[BD h,a7O];congr 1;unfold byteOf at c;split at c
  .rename_i k;split at c
   .rename_i x;obtain rfl:=Δ c;simp only[av];congr 2;have:k.toNat<256:=ε;simp[a9c this];omega
   .cases c
  .cases c
theorem sA(b:ϊ):flat (b.map av)=b.map av:=by
 induction b with
 |nil=>rfl
 |cons c b ih=>simp only[flat,a7O,a7R]at ih|-;rw[ih];rfl
theorem Kc(d f:TypeId)(h:Operand)(w:o.op=.convert d f h)(p:TypeId)(D:q.underlying d=γ (.slice p))(E:q.underlying p=γ (.int .u8))(F:q.underlying f=γ .string)(A:aQ h=ζ)(B:bI v a l)(V:Holds v g m)(y:G ⟨q,u⟩ (.qP h) l g b2):bM q u o a m v g b2:=by
 have z:=B.ai h A;simp only[G]at y;split at y
 case h_2=>trivial
 rename_i H W I;rw[I]at z;split at y
 case h_2=>trivial
 rename_i b K;have M:=BD K;subst M;generalize L:a.eval h=r at z;have P:∀r,(convert d f r).run q m=.ok (.string ⟨b.toArray⟩) m->a.eval h=r->bM q u o a m v g b2:=λr N O=>
  .same V (by simp[execOp,w,O,N]) (.v _ rfl) y
 cases S:b with
 |nil=>
  subst S;cases z with
  |dk C c W bQ Q=>
   refine P _ ?_ L;rw[run_convert_bytes_string m d f p C 0 c D E F];cases C with
   |none=>simp[Conv.bytesToString];rfl
   |some C=>have:=run_bytesToString (P:=q) m C 0 c [] abY;rw[this];rfl
  |J x T len c e i H W X hlen Y k9 Z j n Q=>refine P _ ?_ L;subst hlen;rw[run_convert_bytes_string m d f p _ _ c D E F];have:=run_bytesToString (P:=q) m ⟨x,T,η⟩ 0 c [] abY;simp only[a8R,a7E];rw[this];rfl
 |cons k2 l0=>
  obtain⟨x,T,c,e,i,k3,X,Y,k4,Z,j,n,_⟩:=z.x2 (by rw[S];simp);have k5:e=1:=by have:=k4 (av k2) (by rw[S];simp);rw[<-this];rfl
  subst k5;refine P r ?_ L;rw[k3];have l1:=run_convert_bytes_arg m d p D E x T (b.map av).length c (b.map λx=>(x.toNat)) σ (λk k6=>by
   have s:k<β b:=by simpa using k6
   have k7:=V.ro _ _ _ (j k ε);rw[k7];have t:=n k (av b[k]) (by rw[sA];simp[s]);have k8:i k=.int .u8 (b[k].toNat):=by unfold av at t;exact t.dy
   rw[k8];simp[s]) f F
  simp_all [strOfNums,a8I]
theorem x7{k:Type}(b:List k):∀(d c:Nat),c<d*β b->(θ d b).flatten[c]?=b[c%β b]?
 |0,c,f=>by simp at f
 |d+1,c,f=>by
  rw[aa7,a9p];by_cases h:c<β b
  .rw[a9q h,a9c h]
  .rw[aau ε,x7 b d (c - β b) (by rw[abI]at f;omega)];grind[Nat.mod_eq_sub_mod]
theorem lL(b:List K)(c:Nat):(θ c b).flatten.length=c*β b:=by simp
theorem Kd(x:TypeId)(c h:Operand)(V:o.op=.makeSlice x c h)(k:TypeId)(W:q.underlying x=γ (.slice k))(b:TypeInfo)(e:q.info? k=γ b)(d:Value)(i:b.zero=γ d)(p:d.cells.size=b.size)(Z:∀c∈d.cells.toList,c.oneCell'=ζ)(C:0<b.size)
  (j:aQ c=ζ) (n:aQ h=ζ) (D:bI v a l) (E:Holds v g m) (y:G ⟨q,u⟩ (.kJ b.size b.bytes (d.cells.toList.map dt) c h) l g b2):bM q u o a m v g b2:=by
 have F:=D.ai c j;have L:=D.ai h n;simp only[G]at y;split at y
 case h_2=>trivial
 rename_i s f t k2 w A;rw[w]at F;rw[A]at L;have B:=F.dy;have H:=L.dy;obtain⟨rfl,I,K,M,N⟩:=y;have O:=run_make m x k b d W e i s t f f I (a9B _) (by rw[Int.mul_comm];exact M) K;have Q:bp v (madeCells d.cells (f.toNat*b.size)) (θ f.toNat (d.cells.toList.map dt)).flatten:=by
  have P:(d.cells.toList.map dt).length=b.size:=by simp[p]
  refine bp.ee.2 ⟨by simp[size_madeCells,p],λS c k3 r X=>?_⟩;have T:S<f.toNat*b.size:=by grind[Η,lL]
  rw[x7 _ _ _ (by rw[P];exact T),P,a7Z]at X;rw[a9h]at r;have k4:S%b.size<d.cells.size:=by rw[p];exact a9w _ C
  simp only[madeCells,p]at r;rw[Array.getElem?_map]at r;simp only[abz,T,if_true,a8z,a7G]at r;grind[Array.getElem?_eq_getElem,Option.some.injEq,aW.dt]
 refine .value (by simp[execOp,V,B,H,O]) (Step.new E _ k _ (λk5 z=>?_) Q) (.ar _ _ _ _ C (Χ _)) (N _ E.eD);obtain⟨k6,Y,z⟩:=ab7.1 z;obtain rfl:=(List.mem_replicate.1 Y).2;obtain⟨c,_,rfl⟩:=a7M.1 z;exact oE c
theorem Ke{S:bf}(N k6:TypeId)(x y:Operand)(k7:o.op=.call {callee:=.builtin .copy,args:=#[x,y],argTypes:=#[N,k6]})(p:TypeId)(k8:q.underlying N=γ (.slice p))(P:Nat)(O:(q.info? p).map (·.size)=γ P)
  (k9:aQ x=ζ) (l0:aQ y=ζ) (Q:bI S a l) (j:Holds S g m) (z:G ⟨q,u⟩ (.nw P x y) l g b2):bM q u o a m S g b2:=by
 have r:=Q.ai x k9;have D:=Q.ai y l0;simp only[G]at z;have a08:∀(f k c E d:Nat)(b F:ύ)(n:Own),aW S (a.eval y) (.J b n)->a.eval x=.slice (γ ⟨f,k,η⟩) c E->d=P->(∀p∈b,β p.cells=P)->g f=γ (.cells F)->k+c*P<=β F->
   b2 (.v (.int .i64 (min (β b) c))) (g.set f (.cells (putAt F k (flat (b.take c)))))->bM q u o a m S g b2:=by
  intro f k c E d b F n D t l1 L w a09 l2;subst l1;have l3:∀p∈b.take c,β p.cells=d:=λp V=>L p (a7J V);have a10:(flat (b.take c)).length=(min (β b) c)*d:=by rw[dg l3,a7z,Nat.min_comm]
  have a11:min (β b) c*d<=c*d:=a7N _ ε;have l4:∃C:Array Value,(Builtin.firstCells d (min (β b) c) (a.eval y)).run q m=.ok C m/\bp S C (flat (b.take c))/\(∀A∈flat (b.take c),A.one=ζ)/\(Builtin.lenOf (a.eval y)).run q m=.ok (β b) m:=by
   obtain⟨B,W,l5,a13,l6⟩:=D.src j L q;have a14:=((gx c L).2).symm;have a15:=dg L;generalize a16:a.eval y=l7 at D W;have l8:(Builtin.firstCells d (min (β b) c) l7).run q m=.ok (B.take (min (β b) c*d)).toArray m:=by
    cases D with
    |dk l9 X du bQ n0=>have:=a7y (by rw[l5];rfl);subst this;cases l9<;>simp[Builtin.firstCells,loadCells,loadCellsFrom]
    |J Y Z len X e s xs du a18 n2 a19 a27 a29 hH a30 n0=>
     subst n2;have a34:∀h v,B[h]?=γ v->m.cell? ((⟨Y,Z,η⟩:Addr).add h)=γ v:=by
      intro h v i;have a36:h<(flat b).length:=by grind
      have H:=W.cells;by_cases k2:b=[]
      .subst k2;trivial
      have n3:e=d:=by
       match b,k2 with
       |a38::a42,_=>simp_all
      subst n3;have n4:=run_firstCells_some (P:=q) m e (β b) ⟨Y,Z,η⟩ (β b) X ((ψ (β b*e)).map s) σ (λh v r=>by
       have i:h<β b*e:=by grind
       rw[a7Z,a9Q i]at r;obtain rfl:s h=v:=by simpa using r
       rw[hM];exact j.ro _ _ _ (hH h i))
      rw[n4]at H;simp only[Result.ok.injEq,and_true]at H;have n5:(ψ (β b*e)).map s=B:=by simp_all
      rw[<-n5,a7Z,a9Q ε]at i;obtain rfl:s h=v:=by simpa using i
      rw[hM];exact j.ro _ _ _ (hH h ε)
     grind[run_firstCells_some,min,Nat.mul_le_mul_right]
   refine⟨_,l8,bp.ee.2 ⟨?_,λh x a43 a47 a48=>?_⟩,λA H=>l6 A (by grind),W.len⟩;simp_all;grind
  obtain⟨C,n9,I,k3,a00⟩:=l4;obtain⟨k4,T,a01,a52,a02⟩:=Step.store j w k (flat (b.take c)) C I k3 ε;refine .value ?_ a02 (.v _ rfl) l2;have k5:=run_storeCells_at q f k T C.toList 0 k4 m a01 (by have:=I.1;simp;omega) (I.oA k3);simp only[a9A]at k5;have a03:(storeCells ⟨f,k,η⟩ C.toList).run q m=.ok () (m.setRow f (dm k4 k C.toList)):=by rw[k5];rfl
  cases K:q.info? p with
  |none=>simp[K]at O
  |some ii=>
   have W:ii.size=d:=by simpa[K] using O
   have a04:Nat.min (β b) c=min (β b) c:=rfl;simp[execOp,k7,resolve,invoke,builtin,t,Builtin.copy_,run_underlying k8,a00,sizeOf,typeInfo,K,W,a04,n9,a03,goInt];omega
 split at z
 .rename_i f k c E d b n V M;rw[V]at r;rw[M]at D;obtain⟨rfl,L,z⟩:=z;split at z
  case h_2=>trivial
  rename_i F w;generalize t:a.eval x=a05 at r;cases r with
  |bC f k c E d a06 a07=>grind
 .rename_i f c E d b n V M;rw[V]at r;rw[M]at D;obtain⟨rfl,L,z⟩:=z;split at z
  case h_2=>trivial
  rename_i F w;generalize t:a.eval x=a05 at r;cases r with
  |ar f c E d a06 a07=>grind
 .trivial
theorem Kf{T:bf}(z:Bool)(D:TypeId)(h:Operand)(i:TypeId)(P:o.op=.binOp (if z then .neq else .eql) D h (.const (.slice η 0 0)) i)(S:TypeId)(j:q.underlying D=γ (.slice S))(n:aQ h=ζ)(s:bI T a l)(c:Holds T g m)
  (d:G ⟨q,u⟩ (.nx z h) l g b2):bM q u o a m T g b2:=by
 have p:=s.ai h n;have V:∀v,a.eval (.const v)=v:=λ_=>rfl;have E:∀b r y,a.eval h=.slice b r y->(execOp a.eval o).run q m=.ok (.value (.bool (xor z b.isNone))) m:=λb r y k=>by
  have W:=run_equalIn_slice_nil m 9999 D S b r y j;cases z
  .simp[execOp,P,k,V,eqGuard,binOp,Op.equal,Op.maxDepth,W]
  .simp[execOp,P,k,V,eqGuard,binOp,Op.equal,Op.maxDepth,W]
 simp only[G]at d;split at d
 case h_3=>trivial
 case h_2=>
  rename_i t r x e F;rw[F]at p;generalize k:a.eval h=w at p;cases p with
  |ar t r x e I A=>exact .same c (E _ r x k) (.v _ rfl) (by simpa using d)
 rename_i B C F;rw[F]at p;generalize k:a.eval h=w at p;cases p with
 |dk b x C bQ L=>
  have f:=E b 0 x k;cases C with
  |nil=>simp only[Own.mw]at L;subst L;exact .same c f (.v _ rfl) (by simpa using d)
  |buf H y=>trivial
  |any=>cases b with
   |none=>exact .same c f (.v _ rfl) (by simp_all)
   |some b=>exact .same c f (.v _ rfl) (by simpa using d.2)
  |zero=>cases b with
   |none=>exact .same c f (.v _ rfl) (by simp_all)
   |some b=>exact .same c f (.v _ rfl) (by simpa using d.2)
 |J K off len x e M B C hk hlen A N O hH Q L=>
  have f:=E _ len x k;cases C with
  |nil=>trivial
  |buf H y=>exact .same c f (.v _ rfl) (by simpa using d)
  |any=>exact .same c f (.v _ rfl) (by simpa using d.2)
  |zero=>trivial
theorem Kg{T:bf}(h D:TypeId)(x:Operand)(y:o.op=.convert h D x)(c:TypeId)(E:q.underlying h=γ .string)(W:q.underlying D=γ (.slice c))(e:q.underlying c=γ (.int .u8))(i:aQ x=ζ)(j:bI T a l)(z:Holds T g m)(F:G ⟨q,u⟩ (.su x) l g b2):bM q u o a m T g b2:=by
 have k:=j.ai x i;simp only[G]at F;split at F
 case h_2=>trivial
 rename_i b L;rw[L]at k;have n:=k.dy;have s:=run_bytes_of_string m h D c b E W e;have t:(execOp a.eval o).run q m=.ok (.value (.slice (γ ⟨m.heap.size,0,η⟩) b.size (grownCap m b.size 0 c))) (m.drew.alloc (.cells (bytesRow b (grownCap m b.size 0 c)) c ((bytesRow b (grownCap m b.size 0 c)).size,(bytesRow b (grownCap m b.size 0 c)).size+1))):=by simp[execOp,y,n,s]
 have w:=grownCap_ge m b.size 0 c;generalize grownCap m b.size 0 c=P at*;have A:b.size<=(bytesRow b P).size:=by
  have:b.data.size=b.size:=rfl;simp[bytesRow]
  try omega
 have B:∀d (f:d<b.size),(bytesRow b P)[d]?=γ (.int .u8 ((b.data[d]'f).toNat)):=λd f=>by
  simp_all [bytesRow,aav]
 generalize bytesRow b P=p at*;have h:=Step.write (j4:=m.drew.alloc (.cells p c (p.size,p.size+1))) z.drew m.heap.size b.size p c g rfl rfl rfl σ (heap_alloc_new m.drew _) (λC _ S=>qF m.drew _ C S) (.inl rfl)
   A (λo v k=>by rw[z.nt]at k;cases k) (λM o N E=>E)
   (λo y=>by rw[z.eD]at y;cases y)
 refine .value t ((Step.drew z).trans h) ?_ F;by_cases H:b.size=0
 .have:b.data.toList=[]:=by simp_all
  rw[H,this];exact .dk _ _ _ (λI=>by cases I) trivial
 .refine .J _ _ _ _ 1 (λd=>p.getD d undef) _ _ ε ?_ w (λc L=>?_) (λO V=>?_) (λd f=>?_) (λd Q r=>?_) trivial;simp
  .obtain⟨C,_,rfl⟩:=a7M.1 L;rfl
  .rw[sA]at V;obtain⟨C,_,rfl⟩:=a7M.1 V;rfl
  simp_all [a7X,bf.pz]
  .rw[sA,a7Z]at r;have f:d<b.size:=by rw[aai]at r;obtain⟨C,S,_⟩:=r;have:=(a7B.1 S).1;trivial
   have K:d<b.data.size:=f;rw[a9h,a9I K,a8z,a7G]at r;subst r;rw[a8s,B d f];exact .v _ rfl
end
variable{M:Bool}
section
variable{o:Oper}{a:Act}
def bI.map(k:bI v a l){b:Array Operand}(p:∀d∈b.toList,aQ d=ζ):bp v (b.map a.eval) (b.toList.map (Go.bw.ai l)):=by
 refine bp.ee.2 ⟨σ,λr d x c f=>?_⟩;rw[aa3,a7Z]at c;rw[a7Z]at f;cases h:b.toList[r]? with
 |none=>simp[h]at c
 |some op=>
  rw[h]at c f;obtain rfl:a.eval op=d:=by simpa using c
  obtain rfl:Go.bw.ai l op=x:=by simpa using f
  exact k.ai op (p op (a7C h))
theorem bp.append{b c:Array Value}(d:bp v b j)(f:bp v c B):bp v (b++c) (j++B):=by rw[bp.ee]at d f|-;grind
theorem Kh(b:FuncId)(first c:Array Operand)(p:o.op=.makeFunc (.func b) first c)(r:∀d∈first.toList,aQ d=ζ)(x:∀d∈c.toList,aQ d=ζ)(f:bI v a l)(y:Holds v g m)
  (z:G ⟨q,u⟩ (.bG b first.toList c.toList) l g b2):bM q u o a m v g b2:=by
 have h:=f.map r;have k:=f.map x;refine .same y ?_ (.bG b _ _ _ _ h.1 h.2 k.1 k.2) z;simp only[execOp,p,Instr.makeFunc,Sem.run_bind,Sem.run_pure,Result.andThen_ok]
theorem Ki(b:Operand)(args:Array Operand)(x:Array TypeId)(y:o.op=.call {callee:=.value b,args,argTypes:=x})(z:aQ b=ζ)
  (C:∀b∈args.toList,aQ b=ζ) (k:bI v a l) (p:Holds v g m) (c:G ⟨q,u⟩ (.jl b args.toList) l g b2):bM q u o a m v g b2:=by
 intro w A;have f:=k.ai b z;simp only[G]at c;split at c
 case h_2=>trivial
 rename_i h D E F;obtain⟨L,c⟩:=c;obtain⟨d,P,S,T⟩:∃d,q.funcs[h]?=γ d/\d.body.isSome/\d.name≠ "runtime.NumGoroutine" :=by unfold gw at L;grind
 rw[F]at f;generalize V:a.eval b=B at f;cases f with
 |bG h ws W D E hw e i j=>
  have n:=bp.append (bp.append ⟨hw,e⟩ (k.map C)) ⟨i,j⟩;have s:=c _ m v n p;have t:(execOp a.eval o).run q m=.ok (.enter h (ws++args.map a.eval++W)) m:=by
   cases r:d.body with
   |none=>simp[r]at S
   |some H=>simp[execOp,y,resolve,V,Deferred.ofValue,invoke,callFunc,P,T,r]
  unfold Oper.wp;rw[t];exact s.mono λI K p=>by
   grind
def Kj(b:TypeId)(c:Operand)(f:o.op=.makeInterface b c)(d:TypeDesc)(h:q.underlying b=γ d)(k:∀p,d≠.interface p)(r:aQ c=ζ)(x:bI v a l)(y:Holds v g m)(z:G ⟨q,u⟩ (.qQ b c) l g b2):bM q u o a m v g b2:=by
 refine .same y ?_ (.iface b _ _ (x.ai c r)) z;cases d<;>first
  |exact absurd rfl (k _)
  |simp[execOp,f,Instr.makeInterface,run_underlying h]
def sB{b:Value}(c:∀d,(Op.equalIn (d+1) b6 e8 b).run q m=.ok M m):(Op.equalIn 10000 b6 e8 b).run q m=.ok M m:=c 9999
theorem BE(f:Holds v g m)(b:lI g e=ζ):∃c T,m.heap[e]?=γ (.cells c T (0,0)):=by
 unfold lI at b;split at b
 .rename_i h d;obtain⟨_,c,T,k,_⟩:=f.dN e _ d;simp_all
 .rename_i T h d;obtain⟨_,c,k,_⟩:=f.dN e _ d;simp_all
 .cases b
def Kk(y:Bool)(P:TypeId)(k p:Operand)(K:TypeId)(j:o.op=.binOp (if y then .neq else .eql) P k p K)(S:TypeId)(r:q.underlying P=γ (.pointer S))(V:TypeInfo)(M:q.info? S=γ V)(n:V.size≠0)(N:aQ k=ζ)(O:aQ p=ζ)(s:bI v a l)(z:Holds v g m)
  (d:G ⟨q,u⟩ (.nv y k p) l g b2):bM q u o a m v g b2:=by
 have b:=s.ai k N;have c:=s.ai p O;simp only[G]at d;have C:∀(W e:Option Addr)(x:Bool),a.eval k=.pointer W->a.eval p=.pointer e->(Op.equalIn 10000 P (.pointer W) (.pointer e)).run q m=.ok x m->b2 (.v (.bool (xor y x))) g->bM q u o a m v g b2:=by
  intro W e x t w D E;cases y
  .exact .same z (v:=.bool x) (by simp[execOp,j,t,w,eqGuard,binOp,Op.equal,Op.maxDepth,D]) (.v _ rfl) (by simpa using E)
  .exact .same z (v:=.bool (!x)) (by simp[execOp,j,t,w,eqGuard,binOp,Op.equal,Op.maxDepth,D]) (.v _ rfl) (by simpa using E)
 split at d
 .rename_i F Q f h;rw[f]at b;rw[h]at c;exact C _ _ κ b.kc c.dy (sB (λL=>by simp[Op.equalIn,run_underlying r])) (by simpa using d)
 .rename_i F Q f h;rw[f]at b;rw[h]at c;exact C _ _ κ b.dy c.kc (sB (λL=>by simp[Op.equalIn,run_underlying r])) (by simpa using d)
 .rename_i f h;rw[f]at b;rw[h]at c;exact C _ _ ζ b.dy c.dy (sB (λL=>by simp[Op.equalIn,run_underlying r])) (by simpa using d)
 .rename_i F A B H f h;rw[f]at b;rw[h]at c;obtain⟨⟨X,c2⟩,E⟩:=d;obtain⟨k3,T,D⟩:=BE z X;obtain⟨k4,k5,Y⟩:=BE z c2;refine C _ _ _ b.kc c.kc ?_ E;have I:(sizeOf S).run q m=.ok V.size m:=by simp[sizeOf,typeInfo,M]
  by_cases i:F=B/\A=H
  .obtain⟨rfl,rfl⟩:=i;exact sB (λL=>by simp[Op.equalIn,run_underlying r,I,n,run_sameAddr_same])
  .have Z:(⟨F,A,η⟩:Addr)≠⟨B,H,η⟩:=λk2=>i (by simpa using k2);have:=run_sameAddr_other (P:=q) (w:=m) Z D Y;exact sB (λL=>by simp[Op.equalIn,run_underlying r,I,n,this,i])
 .exact d.elim
def Kl(b:Operand)(p:o.op=.panic b)(r:aQ b=ζ)(x:bI v a l)(y:Holds v g m)(d:G ⟨q,u⟩ (.ny b) l g b2):bM q u o a m v g b2:=by
 intro L z;have c:=x.ai b r;simp only[G]at d;split at d
 case h_2=>trivial
 rename_i f C D;rw[D]at c;have h:=c;generalize E:a.eval b=k at c h;cases c with
 |iface f k C P=>
  have F:(execOp a.eval o).run q m=.halt (.panic (.iface f k)) m:=by simp[execOp,p,E,run_panic_iface]
  unfold Oper.wp;rw[F];exact z _ _ _ _ _ (.refl y) h d
def Km(d:TypeId)(b:Operand)(k:o.op=.range d b)(p:q.underlying d=γ .string)(r:aQ b=ζ)(x:bI v a l)(f:Holds v g m)(c:G ⟨q,u⟩ (.kL b) l g b2):bM q u o a m v g b2:=by
 have h:=x.ai b r;simp only[G]at c;split at c
 case h_2=>trivial
 rename_i y z;rw[z]at h;have C:=h.dy;refine .value ?_ (Step.Bj f _ (.it y 0) (heap_alloc_new m _)) (.ptr _ _) (c _ f.eD);simp[execOp,k,C,Instr.range,run_underlying p]
theorem Kn(r:Operand)(C:o.op=.next r ζ)(L:aQ r=ζ)(P:bI v a l)(y:Holds v g m)(f:G ⟨q,u⟩ (.nz r) l g b2):bM q u o a m v g b2:=by
 have D:=P.ai r L;simp only[G]at f;split at f
 case h_2=>trivial
 rename_i h i S;rw[S]at D;obtain⟨rfl,f⟩:=f;have E:=D.kc;split at f
 case h_2=>trivial
 rename_i d c F;have k:m.heap[h]?=γ (.stringIter d c):=y.dN h _ F;have j:=(a8L.1 k).1;by_cases x:c<d.size
 .rw[if_pos x]at f;have T:=Step.Bk y (c:=.stringIter d (c+(Utf8.decode d c).2)) (b0:=.it d (c+(Utf8.decode d c).2)) (by simp[F]) k (λn s l V=>by cases V) (by
   show(m.heap.setIfInBounds h _)[h]?= _;simp_all)
  refine .value (v:=.tuple #[.bool ζ,.int .i64 c,.int .i32 (Utf8.decode d c).1]) ?_ T (.aJ _ _ rfl (λp W b=>?_)) f
  .have z:(getObj h).run q m=.ok (.stringIter d c) m:=by simp[getObj,Sem.run,k]
   have e:(setObj h (.stringIter d (c+(Utf8.decode d c).2))).run q m=.ok () {m with heap:=m.heap.setIfInBounds h (.stringIter d (c+(Utf8.decode d c).2))}:=by simp[setObj,Sem.run,k]
   simp[execOp,C,E,Instr.next,z,x,e,goInt]
  .match p,b with
   |0,b=>simp at b;subst b;exact .v _ rfl
   |1,b=>simp at b;subst b;exact .v _ rfl
   |2,b=>simp at b;subst b;exact .v _ rfl
   |p+3,b=>simp at b
 .rw[if_neg x]at f;refine .same y (v:=.tuple #[.bool κ]) ?_ (.aJ _ _ rfl (λp W b=>?_)) f
  .have z:(getObj h).run q m=.ok (.stringIter d c) m:=by simp[getObj,Sem.run,k]
   simp[execOp,C,E,Instr.next,z,x]
  .match p,b with
   |0,b=>simp at b;subst b;exact .v _ rfl
   |p+1,b=>simp at b
end
section
def sC(b:Program)(o:Nat)(c:TypeId)(d:List bZ):Prop:=
 ∀(p:Bool)(r:Nat)(a:World)(f:Array Value)(h:Nat),fV d ((f.toList.drop h).take (β d))->
  ∃k,(part c f h).run b a=.ok k a/\(Instr.checkKey p (r+o) c k).run b a=.ok () a
def x8{d:bZ}{f:TypeDesc}(h:q.underlying b6=γ f)(k:f.isRow=κ)(o:∀c p a b,d.fit a->(Instr.checkKey c (p+1) b6 a).run q b=.ok () b):sC q (e+1) b6 [d]:=by intro c r b C D x;obtain⟨a,y,z,E⟩:=one_cell x;exact⟨a,oI h k _ _ _ y b,o c (r+e) a b z⟩
theorem Ko(a:q.underlying b6=γ (.int e4)):sC q (e+1) b6 [.int e4]:=
 x8 a rfl λb c d f h=>by
  simp_all [Instr.checkKey,run_underlying]
theorem Kp(a:q.underlying b6=γ .bool):sC q (e+1) b6 [.bool]:=
 x8 a rfl λb c d f h=>by
  simp_all [Instr.checkKey,run_underlying]
theorem Kq(a:q.underlying b6=γ .string):sC q (e+1) b6 [.str]:=
 x8 a rfl λb c d f h=>by
  simp_all [Instr.checkKey,run_underlying]
theorem x9:∀(d:Nat)(f:TypeId)(h:List bZ),flatK q d f=γ h->q.cellsOf f=β h->(q.info? f).isSome->sC q d f h
 |0,f,h,a,_,_=>by trivial
 |d+1,f,h,a,G,j=>by
  simp only[flatK]at a;cases hu:q.underlying f with
  |none=>simp[hu]at a
  |some desc=>
   simp only[hu]at a;cases desc<;>simp only[]at a<;>first
    |(cases a;done)
    |skip
   case int N=>obtain rfl:=Δ a;exact Ko hu
   case bool=>obtain rfl:=Δ a;exact Kp hu
   case string=>obtain rfl:=Δ a;exact Kq hu
   case array k t=>
    split at a
    case h_2=>cases a
    rename_i b S;split at a
    case isFalse=>cases a
    rename_i o;obtain rfl:=Δ a;have ih:=x9 d t b S o.1 o.2;obtain⟨r,z⟩:=a8i.1 j;obtain⟨u,v⟩:=a8i.1 o.2;have O:u.size=β b:=by simpa[Program.cellsOf,v] using o.1
    have C:r.size=(θ k b).flatten.length:=by simpa[Program.cellsOf,z] using G
    intro T x D y c E;refine⟨_,mH hu rfl z y c D,?_⟩;rw[show x+(d+1)=(x+d)+1 by omega,Instr.checkKey];simp only[Sem.run_bind,run_underlying hu,Result.andThen_ok];simp only[Std.Legacy.Range.forIn_eq_forIn_range',Std.Legacy.Range.size,Nat.sub_zero,Nat.add_one_sub_one,abl];have p:fV (θ k b).flatten (((y.extract c (c+r.size)).toList.drop (0*β b)).take (θ k b).flatten.length):=by rw[aaM,a9F,uf,C,a8G,a9L];exact E
    clear E C G a hu;generalize y.extract c (c+r.size)=V at p|-;generalize (0)=L at p|-
    induction k generalizing L with
    |zero=>simp
    |succ k Q=>simp only[aa7,a9p]at p;obtain⟨F,P⟩:=pF p;have W:min (β b) (b++(θ k b).flatten).length=β b:=σ;have e:(b++(θ k b).flatten).length - β b=(θ k b).flatten.length:=σ;rw[a8G,W]at F;rw[a8T,a8p,e,show L*β b+β b=(L+1)*β b by grind]at P;obtain⟨w,g,l⟩:=ih T x D V (L*β b) F;simp_all [List.range'_succ,run_sizeOf]
   case struct A=>
    split at a;trivial;obtain⟨r,z⟩:=a8i.1 j;have C:r.size=β h:=by simpa[Program.cellsOf,z] using G
    intro T x D y c E;refine⟨_,mH hu rfl z y c D,?_⟩;rw[show x+(d+1)=(x+d)+1 by omega,Instr.checkKey];simp only[Sem.run_bind,run_underlying hu,Result.andThen_ok];rw[<-Array.forIn_toList];have p:fV h (((y.extract c (c+r.size)).toList.drop 0).take (β h)):=by rw[a9F,uf,C,a8G,a9L];exact E
    have ih:=λf b B H I=>x9 d f b B H I;clear E C G hu;generalize y.extract c (c+r.size)=V at p|-;generalize (0)=m at p a;generalize A.toList=n at a|-
    induction n generalizing m h with
    |nil=>simp
    |cons X n K=>
     simp only[qR]at a;split at a
     case isFalse=>cases a
     rename_i s;split at a
     case h_2=>cases a
     rename_i b i S M;split at a
     case isFalse=>cases a
     rename_i o;obtain rfl:=Δ a;obtain⟨F,P⟩:=pF p;have W:min (β b) (b++i).length=β b:=σ;have e:(b++i).length - β b=β i:=σ;rw[a8G,W]at F;rw[a8T,a8p,e,<-o.1]at P;obtain⟨w,g,l⟩:=ih _ _ S o.1 o.2 T x D V m F;rw[<-s.1]at g;simp only[List.forIn_cons,Sem.run_bind,s.2,ne_eq,not_false_eq_true,if_true,Result.andThen_ok,g,l,Sem.run_pure];exact K _ _ P M
def Kr{a:bZ}(b:a.fit e8)(c:Nat):Instr.sameBits c e8 e8=true:=by
 cases a<;>cases e8<;>first
  |exact b.elim
  |(simp[Instr.sameBits];done)
  |(simp only[Instr.sameBits];exact(Go.MapKept.bytes_beq _ _).2 rfl)
theorem Ks{h:Array Value}:∀ {b:List bZ},fV b h.toList->Instr.sameBits (e+1) (.agg h) (.agg h)=true:=by
 intro b d;simp only[Instr.sameBits,beq_self_eq_true,a8J];rw[a7L];have:∀(b:List bZ)(a:List Value),fV b a->∀f∈a.zip a,Instr.sameBits e f.1 f.2=true:=by
  intro b
  induction b with
  |nil=>intro a d f c;cases a with
   |nil=>cases c
   |cons _ _=>exact d.elim
  |cons k b ih=>intro a d f c;cases a with
   |nil=>cases c
   |cons o a=>
    rcases a7S.1 c with rfl|c
    .exact Kr d.1 e
    .exact ih a d.2 f c
 grind
def fK(a:bf):List MapEntry->List (R×R×Nat)->Prop
 |[],[]=>True
 |b::es,c::us=>sm a b c/\fK a es us
 |_,_=>False
def oB.list{k:bf}:∀ {d:List MapEntry}{f:List (R×R×Nat)},β d=β f->(∀(h:Nat)(a:MapEntry)(b:R×R×Nat),d[h]?=γ a->f[h]?=γ b->sm k a b)->fK k d f
 |[],[],_,_=>trivial
 |a::d,b::f,c,o=>⟨o 0 a b rfl rfl,oB.list (by simpa using c) λh a b p r=>o (h+1) a b (by trivial) (by trivial)⟩
 |[],_:: _,c,_=>by simp at c
 |_:: _,[],c,_=>by simp at c
theorem BG{z:bf}{r:Nat}{f:TypeId}{h:List (Nat×bZ)}(i:flatK q r f=γ (kb h))(N:r<=10000)(S:q.cellsOf f=(kb h).length)(T:(q.info? f).isSome){j:TypeDesc}(G:q.underlying f=γ j)(l:j.isRow=ζ)
  {V:Value}{k:ύ} (O:aW z V (.agg k)) (m:dO h k) (x:World):∀(C:List MapEntry)(D:List (R×R×Nat))(c:Nat),fK z C D->(∀E∈D,∃y,E.1=.agg y/\dO h y)->
  ∃d,(Instr.findAsking f V C c).run q x=.ok d x/\(match dT D (.agg k) c with
   |none=>d=η
   |some (W,v)=>∃o,d=γ (W,o.val)/\c<=W/\C[W - c]?=γ o/\o.key=V/\aW z o.val v)
 |[],[],c,_,_=>⟨η,by rfl,rfl⟩
 |[],_:: _,_,a,_=>a.elim
 |_:: _,[],_,a,_=>a.elim
 |o::C,E::D,c,a,n=>by
  obtain⟨⟨e,l5,l6⟩,Q⟩:=a;obtain⟨y,s,X⟩:=n E σ;rw[s]at e;cases O with
  |agg b _ Y t u=>
   generalize w:o.key=l7 at e;cases e with
   |agg ws _ l8 Z k2=>
    have A:bp z b k:=⟨t,u⟩;have B:bp z ws y:=⟨Z,k2⟩;obtain⟨k3,k4⟩:=pG _ k b.toList m (bp.ee.1 A).1 (bp.ee.1 A).2;obtain⟨k5,k6⟩:=pG _ y ws.toList X (bp.ee.1 B).1 (bp.ee.1 B).2;have k7:b.size=(kb h).length:=by have:=oH k3;trivial
    have k8:ws.size=(kb h).length:=by have:=oH k5;trivial
    obtain⟨g,H⟩:=a8i.1 T;have I:g.size=(kb h).length:=by simpa[Program.cellsOf,H] using S
    obtain⟨l9,n0,d,L,P,K,n2⟩:=ug r f _ i S T (10000 - r) x b ws 0 (by grind) (by grind);rw[mH G l H]at L P;have k9:b.extract 0 (0+g.size)=b:=by rw[a7X,I,<-k7];simp
    have l0:ws.extract 0 (0+g.size)=ws:=by rw[a7X,I,<-k8];simp
    rw[k9]at L;rw[l0]at P;simp only[Result.ok.injEq,and_true]at L P;subst L;subst P;rw[show 10000 - r+r=10000 by omega]at K;have l1:(b=ws)↔d=true:=by grind[Λ,Array.toList_inj]
    have l2:peq (.agg k) (.agg y)=d:=by
     rw[a9W,so,<-l1,k4,k6];constructor
     .intro a;have n3:=R.agg.inj a;have:∀F p:List Value,F.map R.v=p.map R.v->F=p:=λF p a=>by
       induction F generalizing p with
       |nil=>cases p with
        |nil=>rfl
        |cons _ _=>cases a
       |cons n4 F ih=>cases p with
        |nil=>cases a
        |cons n5 p=>grind
      grind
     .rintro rfl;rfl
    obtain⟨l3,l4,n9⟩:=BG i N S T G l (.agg b k Y t u) m x C D (c+1) Q λE G=>n E (by simp[G]);have M:(Op.equal f (.agg b) (.agg ws)).run q x=.ok d x:=K;simp only[dT,s,l2];cases d with
    |true=>refine⟨γ (c,o.val),by simp[Instr.findAsking,w,M],?_⟩;grind
    |false=>refine⟨l3,by simp[Instr.findAsking,w,M,l4],?_⟩;grind
end
structure nH(a:Program)(b:TypeId)(rs:List (Nat×bZ)):Prop where
 flat:∃d,d<=10000/\flatK a d b=γ (kb rs)
 size:a.cellsOf b=(kb rs).length
 info:(a.info? b).isSome
 row:∃c,a.underlying b=γ c/\c.isRow=ζ/\(match a.underlying b with|some (.array _ _)|some (.struct _)=>ζ|_=>κ)=ζ
variable{j9:List (Nat × bZ)}
section
theorem nH.check(a:nH q b6 j9)(p:aW v e8 (.agg j))(r:dO j9 j)(d:Bool)(c:World):(Instr.checkKey d 10000 b6 e8).run q c=.ok () c:=by
 obtain⟨f,P,x⟩:=a.flat;obtain⟨S,y,z,_⟩:=a.row;cases p with
 |agg b _ T C D=>
  have h:bp v b j:=⟨C,D⟩;obtain⟨E,V⟩:=pG _ j b.toList r (bp.ee.1 h).1 (bp.ee.1 h).2;have F:b.size=(kb j9).length:=by have:=oH E;trivial
  obtain⟨k,o⟩:=a8i.1 a.info;have G:k.size=(kb j9).length:=by simpa[Program.cellsOf,o] using a.size
  obtain⟨W,L,e⟩:=x9 f b6 _ x a.size a.info d (10000 - f) c b 0 (by grind);rw[mH y z o]at L;have g:b.extract 0 (0+k.size)=b:=by rw[a7X,G,<-F];simp
  grind
theorem nH.find{k:bf}(a:nH q b6 j9)(r:aW k e8 (.agg j))(x:dO j9 j)(h:World){b:List MapEntry}{c:List (R×R×Nat)}(y:fK k b c)(z:∀C∈c,∃o,C.1=.agg o/\dO j9 o):
  ∃d,(Instr.findKey b6 e8 b).run q h=.ok d h/\(match dT c (.agg j) 0 with
   |none=>d=η
   |some (p,v)=>∃f,d=γ (p,f.val)/\b[p]?=γ f/\f.key=e8/\aW k f.val v):=by
 obtain⟨L,D,E⟩:=a.flat;obtain⟨P,F,G,S⟩:=a.row;obtain⟨d,T,V⟩:=BG E D a.size a.info F G r x h b c 0 y z;grind[run_findKey_eq,dT,id]
def Kt{z:bf}{h k:TypeId}(o:q.underlying h=γ (.map k b6))(p:nH q k j9){r:TypeInfo}(L:q.info? b6=γ r)(P:r.zero=γ e8){x:Value}(y:aW z x (.agg j))(C:dO j9 j)
  {b:Array MapEntry} (D:m.heap[e]?=γ (.map b i)) {a:List (R×R×Nat)} (S:fK z b.toList a) (T:∀V∈a,∃E,V.1=.agg E/\dO j9 E) (c:Bool):
  ∃d,(Instr.lookup h (.map (γ e)) x c).run q m=.ok d m/\(match dT a (.agg j) 0 with
   |none=>d=if c then .tuple #[e8,.bool κ]else e8
   |some (_,v)=>∃f,aW z f v/\d=if c then .tuple #[f,.bool ζ]else f):=by
 obtain⟨t,F,W⟩:=p.find y C m S T;have G:=p.check y C b.isEmpty m;have g:(zeroValue b6).run q m=.ok e8 m:=by simp[zeroValue,typeInfo,L,P]
 revert W;cases dT a (.agg j) 0 with
 |none=>rintro rfl;exact⟨_,by simp[Instr.lookup,run_underlying o,MapKept.run_getObj_map D,G,F,g],rfl⟩
 |some l=>obtain⟨u,v⟩:=l;rintro⟨n,rfl,_,_,s⟩;exact⟨_,by simp[Instr.lookup,run_underlying o,MapKept.run_getObj_map D,G,F],n.val,s,rfl⟩
def fK.leq:∀ {a:List MapEntry}{b:List (R×R×Nat)},fK v a b->β a=β b
 |[],[],_=>rfl
 |_:: _,_:: _,c=>by simp[fK.leq c.2]
theorem fK.set{r:bf} :∀ {c:List MapEntry}{d:List (R×R×Nat)}{f:Nat}{b:MapEntry}{h k:Value}{v:R},fK r c d->c[f]?=γ b->b.key=h->aW r k v->
  fK r (c.modify f λb=> {b with key:=h,val:=k}) (d.modify f λo=>(o.1,v,o.2.2))
 |[],_,_,_,_,_,_,_,a,_,_=>by simp at a
 |_:: _,[],_,_,_,_,_,a,_,_,_=>a.elim
 |x::c,o::d,0,b,h,k,v,a,he,hk,p=>by
  simp at he;subst he;simp only[abr];exact⟨⟨by rw[<-hk];exact a.1.1,p,a.1.2.2⟩,a.2⟩
 |x::c,o::d,f+1,b,h,k,v,a,he,hk,p=>by
  simp only[abt];exact⟨a.1,fK.set a.2 (by trivial) hk p⟩
def fK.push:∀ {b:List MapEntry}{c:List (R×R×Nat)}{d:MapEntry}{f:R×R×Nat},fK v b c->sm v d f->fK v (b++[d]) (c++[f])
 |[],[],_,_,_,a=>⟨a,trivial⟩
 |_:: _,_:: _,_,_,a,h=>⟨a.1,fK.push a.2 h⟩
theorem Ku{f:bf}{p S:TypeId}(r:q.underlying b6=γ (.map p S))(x:nH q p j9){c:Value}{v:R}(d:aW f e8 (.agg j))(k:dO j9 j)(y:aW f c v)
  {a:Array MapEntry} (h:m.heap[i]?=γ (.map a e)) {b:List (R×R×Nat)} (o:fK f a.toList b) (T:∀V∈b,∃z,V.1=.agg z/\dO j9 z):
  ∃C:Array MapEntry,(Instr.mapUpdate b6 (.map (γ i)) e8 c).run q m=.ok () {m with heap:=m.heap.setIfInBounds i (.map C (lF b (.agg j) v e).2)}/\fK f C.toList (lF b (.agg j) v e).1:=by
 obtain⟨I,D,W⟩:=x.find d k m o T;have E:=x.check d k κ m;unfold lF;revert W;cases dT b (.agg j) 0 with
 |none=>
  rintro rfl;refine⟨a.push {key:=e8,val:=c,born:=e},?_,?_⟩
  .simp[Instr.mapUpdate,run_underlying r,MapKept.run_getObj_map h,E,D,MapKept.run_setObj_map _ h]
  .simp only[Array.toList_push];exact o.push ⟨d,y,rfl⟩
 |some g=>
  obtain⟨F,K⟩:=g;rintro⟨G,rfl,l,n,M⟩;have s:Instr.sameBits 10000 e8 e8=true:=by
   cases d with
   |agg L _ N t u=>have P:bp f L j:=⟨t,u⟩;obtain⟨w,O⟩:=pG _ j L.toList k (bp.ee.1 P).1 (bp.ee.1 P).2;have A:(10000)=9999+1:=rfl;rw[A];exact Ks w
  have B:(Instr.keyThatStays e8 e8).run q m=.ok e8 m:=by simp[Instr.keyThatStays,s]
  have H:((a[F]?).map (·.key)).getD e8=e8:=by simp_all
  refine⟨a.modify F λG=> {G with key:=e8,val:=c},?_,?_⟩
  .simp only[Instr.mapUpdate,Sem.run_bind,run_underlying r,Result.andThen_ok,MapKept.run_getObj_map h,E,D,H,B,MapKept.run_setObj_map _ h]
  .rw[Array.toList_modify];exact o.set l n y
end
section
variable{o:Oper}{a:Act}
def aW.xa(b:aW v e8 (.gr e)):e8=.map (γ e):=by cases b;rfl
def Kv(c:TypeId)(d:o.op=.makeMap c η)(b:Holds v g m)(f:G ⟨q,u⟩ .kM l g b2):bM q u o a m v g b2:=by refine .value ?_ (Step.Bj b _ (.mp [] 0) ⟨#[],heap_alloc_new m _,rfl,λk p r h=>by simp at h⟩) (.gr _) (f _ b.eD);simp[execOp,d,Instr.makeMap]
def Kw(d:TypeId)(b:Operand)(p:o.op=.call {callee:=.builtin .len,args:=#[b],argTypes:=#[d]})(r x:TypeId)(y:q.underlying d=γ (.map r x))
  (z:aQ b=ζ) (C:bI v a l) (f:Holds v g m) (c:G ⟨q,u⟩ (.pD b) l g b2):bM q u o a m v g b2:=by
 have h:=C.ai b z;simp only[G]at c;split at c
 case h_2=>trivial
 rename_i k D;rw[D]at h;have E:=h.xa;split at c
 case h_2=>trivial
 rename_i F L P;obtain⟨S,T,V,W⟩:=f.dN k _ P;refine .same f (v:=.int .i64 (β F)) ?_ (.v _ rfl) c;simp[execOp,p,resolve,invoke,builtin,E,Builtin.len_,run_underlying y,run_getObj_map m k S L T,goInt,V]
def Kx{r:bf}(z C D:TypeId)(k p:Operand)(f:Bool)(e:o.op=.lookup z k p f)(i:q.underlying z=γ (.map C D))(j:nH q C j9){E:TypeInfo}(n:q.info? D=γ E)(t:E.zero=γ e8)(F:aW r e8 s)
  (w:aQ k=ζ) (A:aQ p=ζ) (L:bI r a l) (x:Holds r g m) (c:G ⟨q,u⟩ (.mD f j9 s k p) l g b2):bM q u o a m r g b2:=by
 have P:=L.ai k w;have S:=L.ai p A;simp only[G]at c;split at c
 case h_2=>trivial
 rename_i B H I K;rw[I]at P;rw[K]at S;have M:=P.xa;split at c
 case h_2=>trivial
 rename_i T k8 N;obtain⟨O,Q,c⟩:=c;obtain⟨X,Y,k9,Z⟩:=x.dN B _ N;have k2:fK r X.toList T:=oB.list (by trivial) λd k3 y k4 k5=>Z d k3 y (by simpa using k4) k5;obtain⟨v,k6,h⟩:=Kt i j n t S O Y k2 Q f;have V:(execOp a.eval o).run q m=.ok (.value v) m:=by simp[execOp,e,M,k6]
 revert c h;cases dT T (.agg H) 0 with
 |none=>
  intro c h;subst h;refine .same x V ?_ c;cases f with
  |false=>exact F
  |true=>exact .aJ _ _ rfl (λd y b=>by
    match d,b with
    |0,b=>simp at b;subst b;exact F
    |1,b=>simp at b;subst b;exact .v _ rfl
    |d+2,b=>simp at b)
 |some k7=>
  obtain⟨d,l0⟩:=k7;intro c h;obtain⟨l1,W,rfl⟩:=h;refine .same x V ?_ c;cases f with
  |false=>exact W
  |true=>exact .aJ _ _ rfl (λd y b=>by
    match d,b with
    |0,b=>simp at b;subst b;exact W
    |1,b=>simp at b;subst b;exact .v _ rfl
    |d+2,b=>simp at b)
theorem fK.ok{h:bf}:∀ {k:List MapEntry}{p:List (R×R×Nat)},fK h k p->∀(d:Nat)(b:MapEntry)(c:R×R×Nat),k[d]?=γ b->p[d]?=γ c->sm h b c
 |_:: _,_:: _,f,0,b,c,he,hu=>by simp at he hu;subst he;subst hu;exact f.1
 |_:: _,_:: _,f,d+1,b,c,he,hu=>fK.ok f.2 d b c (by trivial) (by trivial)
 |[],_,_,_,_,_,he,_=>by simp at he
theorem Ky{x:bf}(p P j:TypeId)(c d v:Operand)(f:o.op=.mapUpdate p c d v\/o.op=.insert p c d v)(n:q.underlying p=γ (.map P j))(s:nH q P j9)
  (t:aQ c=ζ) (w:aQ d=ζ) (A:aQ v=ζ) (r:bI x a l) (S:Holds x g m) (b:G ⟨q,u⟩ (.mE j9 c d v) l g b2):bM q u o a m x g b2:=by
 have T:=r.ai c t;have V:=r.ai d w;have B:=r.ai v A;simp only[G]at b;split at b
 case h_2=>trivial
 rename_i H y I K;rw[I]at T;rw[K]at V;have M:=T.xa;split at b
 case h_2=>trivial
 rename_i h z W;obtain⟨N,O,b⟩:=b;obtain⟨Q,C,k4,X⟩:=S.dN H _ W;have Y:fK x Q.toList h:=oB.list (by trivial) λD k E F L=>X D k E (by simpa using F) L;obtain⟨e,Z,i⟩:=Ku n s V N B C Y O;have k5:=(a8L.1 C).1;have k2:=Step.Bk S (c:=.map e (lF h (.agg y) (Go.bw.ai l v) z).2) (b0:=.mp (lF h (.agg y) (Go.bw.ai l v) z).1 (lF h (.agg y) (Go.bw.ai l v) z).2) (by simp[W]) C (λk6 k l k3=>by cases k3)
  ⟨e,by
   simp_all,by simpa using i.leq,λD k E F L=>i.ok D k E (by simpa using F) L⟩
 refine .skip ?_ k2 b;rcases f with f|f<;>simp[execOp,f,M,Z]
end
end Go.bw
