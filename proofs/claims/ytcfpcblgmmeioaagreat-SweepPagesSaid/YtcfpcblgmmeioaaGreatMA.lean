import Derived.WalkKit
import Derived.Deep.MidRow
import Derived.ChangeKeysEq
import Derived.LaidEql
import Derived.Laws.Cover3
import Derived.WalkSmall
import Derived.Lib.Builder
import Derived.Lib.UnsafeStr
import Derived.MapKept
import Derived.WideKeyRuns
set_option linter.all false
def aaU{p:Prop}(h:p:=by omega):p:=h
def aaV{p:Prop}(h:p:=by simp):p:=h
def aaW{p:Prop}(h:p:=by simp;omega):p:=h
def aaX{p:Prop}(h:p:=by assumption):p:=h
def aaY{p:Prop}(h:p:=by decide):p:=h
def aaZ{p:Prop}(h:p:=by kernel_rfl):p:=h
def ab0{p:Prop}(h:p:=by rfl):p:=h
def a6w:=@And.intro
def a6x:=@Option.some.inj
def a6y:=@List.getElem?_eq_getElem
def a6z:=@List.take_of_length_le
def a6A:=@List.length_append
def a6B:=@Bool.and_eq_true
def a6C:=@List.length_take
def a6D:=@List.mem_of_getElem?
def a6E:=@List.length_cons
def a6F:=@List.eq_nil_of_length_eq_zero
def a6G:=@List.length_nil
def a6H:=@List.getElem?_eq_some_iff
def a6I:=@Ne.symm
def a6J:=@List.length_map
def a6K:=@Option.some.injEq
def a6L:=@List.mem_append
def a6M:=@List.mem_of_mem_take
def a6N:=@List.append_assoc
def a6O:=@Nat.mul_le_mul_right
def a6P:=@List.all_eq_true
def a6Q:=@List.map_cons
def a6R:=@List.length_drop
def a6S:=@List.mem_map
def a6T:=@List.nil_append
def a6U:=@List.mem_singleton
def a6V:=@List.take_length
def a6W:=@List.mem_cons
def a6X:=@Int.toNat_natCast
def a6Y:=@List.drop_eq_getElem_cons
def a6Z:=@List.getElem_mem
def a7a:=@List.flatMap_cons
def a7b:=@Nat.zero_le
def a7c:=@Nat.zero_add
def a7d:=@List.getElem?_map
def a7e:=@List.mem_of_mem_drop
def a7f:=@List.take_append_drop
def a7g:=@Nat.le_refl
def a7h:=@List.getD_cons_zero
def a7i:=@List.pairwise_cons
def a7j:=@List.foldl_cons
def a7k:=@List.getD_cons_succ
def a7l:=@List.getElem_of_mem
def a7m:=@Option.isSome_iff_exists
def a7n:=@List.drop_eq_nil_of_le
def a7o:=@Bool.not_true
def a7p:=@List.drop_drop
def a7q:=@Nat.shiftRight_eq_div_pow
def a7r:=@List.flatMap_append
def a7s:=@Nat.mul_one
def a7t:=@List.takeWhile_append_dropWhile
def a7u:=@Bool.not_false
def a7v:=@UInt8.toNat_inj
def a7w:=@Array.getD_eq_getD_getElem?
def a7x:=@List.map_append
def a7y:=@Nat.le_trans
def a7z:=@List.getD_eq_getElem?_getD
def a7A:=@UInt8.toNat_ofNat'
def a7B:=@List.length_pos_iff
def a7C:=@List.take_add_one
def a7D:=@List.getElem?_take_of_lt
def a7E:=@List.append_nil
def a7F:=@Option.map_some
def a7G:=@List.pairwise_append
def a7H:=@Bool.false_eq_true
def a7I:=@Nat.add_mul
def a7J:=@Prod.mk.injEq
def a7K:=@List.take_succ_eq_append_getElem
def a7L:=@Nat.lt_of_lt_of_le
def a7M:=@List.cons_append
def a7N:=@List.take_take
def a7O:=@List.mem_range
def a7P:=@Array.getElem?_eq_some_iff
def a7Q:=@List.sum_cons
def a7R:=@List.set_eq_take_append_cons_drop
def a7S:=@List.drop_succ_cons
def a7T:=@List.drop_take
def a7U:=@List.takeWhile_cons
def a7V:=@List.not_mem_nil
def a7W:=@List.map_nil
def a7X:=@List.mem_cons_of_mem
def a7Y:=@List.pairwise_iff_getElem
def a7Z:=@List.drop_of_length_le
def a8a:=@List.drop_zero
def a8b:=@List.drop_append
def a8c:=@List.length_singleton
def a8d:=@Bool.not_eq_true'
def a8e:=@Bool.true_and
def a8f:=@List.take_append_of_le_length
def a8g:=@List.drop_append_of_le_length
def a8h:=@Int.toNat_of_nonneg
def a8i:=@List.map_congr_left
def a8j:=@Array.getElem?_toList
def a8k:=@Nat.min_eq_left
def a8l:=@Bool.or_eq_true
def a8m:=@List.getElem?_cons_zero
def a8n:=@Nat.mod_eq_of_lt
def a8o:=@Nat.pow_le_pow_right
def a8p:=@List.flatten_cons
def a8q:=@List.length_zipWith
def a8r:=@List.getElem?_append_left
def a8s:=@List.length_replicate
def a8t:=@Option.isSome_none
def a8u:=@List.mem_cons_self
def a8v:=@Option.getD_some
def a8w:=@List.take_zero
def a8x:=@List.getElem?_cons_succ
def a8y:=@Int.eq_ofNat_of_zero_le
def a8z:=@List.foldl_append
def a8A:=@Nat.add_zero
def a8B:=@List.length_eq_one_iff
def a8C:=@Nat.testBit_lt_two_pow
def a8D:=@List.map_map
def a8E:=@Nat.mod_lt
def a8F:=@List.exists_cons_of_ne_nil
def a8G:=@List.drop_length
def a8H:=@List.mem_append_right
def a8I:=@Array.getElem?_eq_getElem
def a8J:=@List.mem_or_eq_of_mem_set
def a8K:=@List.eraseIdx_eq_take_drop_succ
def a8L:=@Nat.min_self
def a8M:=@List.mem_append_left
def a8N:=@List.take_left'
def a8O:=@List.replicate_succ
def a8P:=@List.getElem?_range
def a8Q:=@Nat.shiftLeft_eq
def a8R:=@Bool.false_and
def a8S:=@List.foldl_nil
def a8T:=@Nat.sub_self
def a8U:=@Option.isSome_some
def a8V:=@List.append_of_mem
def a8W:=@Iff.rfl
def a8X:=@List.cons.injEq
def a8Y:=@Nat.eq_of_mul_eq_mul_right
def a8Z:=@List.pairwise_map
def a9a:=@Nat.eq_of_testBit_eq
def a9b:=@Array.toList_map
def a9c:=@List.perm_middle
def a9d:=@List.dropWhile_cons
def a9e:=@Nat.add_sub_cancel_left
def a9f:=@Bool.eq_iff_iff
def a9g:=@Nat.xor_lt_two_pow
def a9h:=@List.drop_left'
def a9i:=@Option.map_eq_some_iff
def a9j:=@Nat.shiftLeft_add_eq_or_of_lt
def a9k:=@List.take_left
def a9l:=@Bool.false_xor
def a9m:=@List.drop_left
def a9n:=@List.take_length_add_append
def a9o:=@List.drop_length_add_append
def a9p:=@List.getElem?_of_mem
def a9q:=@List.flatMap_nil
def a9r:=@List.take_append
def a9s:=@List.getElem?_append_right
def a9t:=@Array.getElem?_append_left
def a9u:=@List.map_drop
def a9v:=@Nat.one_mul
def a9w:=@List.take_succ_cons
def a9x:=@Nat.div_add_mod
def a9y:=@Nat.div_le_self
def a9z:=@List.length_set
def a9A:=@List.mem_filter
def a9B:=@List.getElem?_drop
def a9C:=@Int.cast_ofNat_Int
def a9D:=@List.sum_nil
def a9E:=@List.filter_append
def a9F:=@List.mem_of_mem_eraseIdx
def a9G:=@Nat.mul_le_mul
def a9H:=@List.length_pos_of_mem
def a9I:=@Option.getD_none
def a9J:=@List.flatMap_def
def a9K:=@List.append_cons
def a9L:=@List.filter_cons
def a9M:=@List.any_eq_true
def a9N:=@Bool.and_eq_false_iff
def a9O:=@List.length_filter_le
def a9P:=@Array.getElem?_setIfInBounds_ne
def a9Q:=@Nat.zero_mul
def a9R:=@Nat.succ_mul
def a9S:=@Array.eq_empty_of_size_eq_zero
def a9T:=@Nat.testBit_xor
def a9U:=@List.getElem?_append
def a9V:=@Array.length_toList
def a9W:=@List.filter_eq_self
def a9X:=@Option.map_map
def a9Y:=@List.mem_filterMap
def a9Z:=@Array.extract_eq_self_of_le
def aa0:=@Nat.add_assoc
def aa1:=@List.map_take
def aa2:=@Nat.testBit_two_pow_add_gt
def aa3:=@Int.tdiv_eq_ediv_of_nonneg
def aa4:=@List.cons.inj
def aa5:=@Nat.lt_trichotomy
def aa6:=@List.ext_getElem?
def aa7:=@List.mem_flatten
def aa8:=@Array.toList_inj
def aa9:=@List.isEmpty_iff
def aaa:=@Nat.add_comm
def aab:=@Int.zero_add
def aac:=@Nat.pow_succ
def aad:=@List.ext_getElem
def aae:=@BitVec.toNat_xor
def aaf:=@Int.sub_zero
def aag:=@List.Pairwise.imp_of_mem
def aah:=@List.getElem_map
def aai:=@Nat.le_mul_of_pos_right
def aaj:=@Nat.testBit_mod_two_pow
def aak:=@List.filter_cons_of_neg
def aal:=@List.filter_cons_of_pos
def aam:=@List.append_inj
def aan:=@List.range_succ
def aao:=@List.sum_append
def aap:=@List.filter_nil
def aaq:=@Int.le_refl
def aar:=@BitVec.isLt
def aas:=@List.range_succ_eq_map
def aat:=@Nat.le_mul_of_pos_left
def aau:=@Prod.mk.inj
def aav:=@List.getElem?_set_self
def aaw:=@List.modify_zero_cons
def aax:=@List.modify_succ_cons
def aay:=@Array.getElem?_append
def aaz:=@Nat.le_div_iff_mul_le
def aaA:=@List.take_succ
def aaB:=@List.getElem?_eq_none
def aaC:=@Nat.add_sub_add_right
def aaD:=@List.singleton_append
def aaE:=@Array.ext'
def aaF:=@Array.getElem?_range
def aaG:=@List.replicate_succ'
def aaH:=@Bool.or_eq_false_iff
def aaI:=@Bool.and_true
def aaJ:=@Bool.false_or
def aaK:=@List.drop_nil
def aaL:=@Array.toList_zipIdx
def aaM:=@Nat.mul_le_mul_left
def aaN:=@Nat.testBit_two_pow
def aaO:=@List.drop_set_of_lt
def aaP:=@Nat.le_of_eq
def aaQ:=@Nat.mul_comm
def aaR:=@Nat.succ_pos
def aaS:=@List.all_map
def aaT:=@Nat.lt_or_ge
namespace Go.bD
open Go
inductive Own where
 |any
 |nil
 |zero
 |buf (g cap:Nat)
inductive R where
 |v (x:Value)
 |ptr (l off:Nat)
 |bU (cs:List R)
 |J (xs:List R) (o:Own)
 |bE (l off len cap k:Nat)
 |ao (l n cap k:Nat)
 |agg (cs:List R)
 |aJ (a:List R)
 |iface (t:TypeId) (x:R)
 |bG (f:Nat) (pre cap:List R)
 |eX (l:Nat)
def R.cells:R->List R
 | .agg cs=>cs
 | .aJ _=> []
 |a=> [a]
def R.one:R->Bool
 | .agg _=>false
 | .aJ _=>false
 | _=>true
def flat (a:List R):List R:=a.flatMap R.cells
abbrev bl:=Nat->Nat->Option Value
def Own.ok (a:Own) (b c d:Nat):Prop:=
 match a with
 | .any=>True
 | .buf h k=>h=b/\c=0/\k=d
 | _=>False
def Own.lT (a:Own) (b:Option Addr) (c:Nat):Prop:=
 match a with
 | .any=>True
 | .nil=>b=none
 | .zero=>c=0
 | .buf _ _=>False
inductive aX (p:bl):Value->R->Prop
 |v (x:Value) (h:x.oneCell'=true):aX p x (.v x)
 |ptr (l off:Nat):aX p (.pointer (some ⟨l,off,none⟩)) (.ptr l off)
 |bU (b off:Nat) (C:Nat->Value) (cs:List R) (E: ∀c∈cs,c.one=true) (hH: ∀d,d<cs.length->p b (off+d)=some (C d))
   (D: ∀d r,cs[d]? =some r->aX p (C d) r):aX p (.pointer (some ⟨b,off,none⟩)) (.bU cs)
 |dg (a:Option Addr) (cap:Nat) (o:Own) (bZ:a=none->cap=0) (L:o.lT a cap):aX p (.slice a 0 cap) (.J [] o)
 |J (b off len cap k:Nat) (C:Nat->Value) (xs:List R) (o:Own) (hk:0<k) (hlen:len=xs.length) (F:len<=cap) (P: ∀e∈xs,e.cells.length=k)
   (E: ∀c∈flat xs,c.one=true) (hH: ∀d,d<len*k->p b (off+d)=some (C d)) (D: ∀d r,(flat xs)[d]? =some r->aX p (C d) r) (L:o.ok b off cap):
   aX p (.slice (some ⟨b,off,none⟩) len cap) (.J xs o)
 |bE (l off len cap k:Nat) (hk:0<k) (F:len<=cap):aX p (.slice (some ⟨l,off,none⟩) len cap) (.bE l off len cap k)
 |ao (l n cap k:Nat) (hk:0<k) (F:n<=cap):aX p (.slice (some ⟨l,0,none⟩) n cap) (.ao l n cap k)
 |agg (z:Array Value) (cs:List R) (E: ∀c∈cs,c.one=true) (G:z.size=cs.length) (D: ∀d r,cs[d]? =some r->aX p (z.getD d undef) r):aX p (.agg z) (.agg cs)
 |aJ (z:Array Value) (cs:List R) (G:z.size=cs.length) (D: ∀d r,cs[d]? =some r->aX p (z.getD d undef) r):aX p (.tuple z) (.aJ cs)
 |iface (t:TypeId) (x:Value) (y:R) (h:aX p x y):aX p (.iface t x) (.iface t y)
 |bG (f:Nat) (ws z:Array Value) (cK cs:List R) (hw:ws.size=cK.length) (S: ∀d r,cK[d]? =some r->aX p (ws.getD d undef) r) (G:z.size=cs.length) (D: ∀d r,cs[d]? =some r->aX p (z.getD d undef) r):aX p (.func (.func f) ws z) (.bG f cK cs)
 |eX (l:Nat):aX p (.map (some l)) (.eX l)
def bw (h:bl) (a:Array Value) (b:List R):Prop:=a.size=b.length/\ ∀c d,b[c]? =some d->aX h (a.getD c undef) d
def bl.le (c d:bl):Prop:= ∀a b v,c a b=some v->d a b=some v
def bl.le.refl (a:bl):a.le a:=λ_ _ _ b=>b
variable{u:bl}
theorem bl.le.trans {a b:bl} (h:u.le a) (k:a.le b):u.le b:=λc d v o=>k c d v (h c d v o)
variable{e4:Value}
def aX.mono {E:bl} (F:u.le E) {a:R} (p:aX u e4 a):aX E e4 a:=by
 induction p with
 |v e4 p=>exact .v e4 p
 |ptr b off=>exact .ptr b off
 |bU r off x cs c hH _ ih=>exact .bU r off x cs c (λy z=>F _ _ _ (hH y z)) ih
 |dg a cap C bZ D=>exact .dg a cap C bZ D
 |J r off len cap d x xs C hk hlen h G c hH _ D ih=>exact .J r off len cap d x xs C hk hlen h G c (λy z=>F _ _ _ (hH y z)) ih D
 |bE b off len cap d hk h=>exact .bE b off len cap d hk h
 |ao b L cap d hk h=>exact .ao b L cap d hk h
 |agg k cs c o _ ih=>exact .agg k cs c o ih
 |aJ k cs o _ ih=>exact .aJ k cs o ih
 |iface P e4 S _ ih=>exact .iface P e4 S ih
 |bG T ws k cK cs hw _ o _ V ih=>exact .bG T ws k cK cs hw V o ih
 |eX b=>exact .eX b
def bw.mono {a b:bl} (k:a.le b) {c:Array Value}{d:List R} (h:bw a c d):bw b c d:=⟨h.1,λo p r=>(h.2 o p r).mono k⟩
variable{n b6:R}
def aX.nX (a:aX u e4 n) (b:n.one=true):e4.oneCell'=true:=by cases a<;>first|assumption|rfl|(simp[R.one]at b)
theorem aX.undef (a:bl):aX a Go.undef (.aJ []):= .aJ #[] [] rfl (λc d b=>by simp at b)
theorem aX.cells {o:bl}{b:Value}{h:R} (p:aX o b h) (D:0<h.cells.length):bw o b.cells h.cells/\ ∀k∈h.cells,k.one=true:=by
 have r:=p;cases p with
 |agg x cs E y z=>trivial
 |aJ x cs y z=>trivial
 |v b F=>
  refine⟨⟨?_,?_⟩,by intro k c;simp[R.cells]at c;subst c;rfl⟩
  .cases b<;>simp_all [Value.cells,R.cells,Value.oneCell']
  .intro d C a
   match d,a with
   |0,a=>simp[R.cells]at a;subst a;cases b<;>simp_all [Value.cells,Value.oneCell']
   |d+1,a=>trivial
 | _=>
  refine⟨⟨rfl,?_⟩,by intro k c;simp[R.cells]at c;subst c;rfl⟩;intro d C a
  match d,a with
  |0,a=>simp[R.cells]at a;subst a;exact r
  |d+1,a=>simp[R.cells]at a
inductive bs where
 |cells (cs:List R)
 |ro (cs:List R)
 |buf (k n cap:Nat)
 |it (t:ByteArray) (pos:Nat)
 |mp (es:List (R×R×Nat)) (clock:Nat)
 |wg (m:Option Nat) (since:Nat) (seen:List Nat) (a:Nat)
 |p5 (T:TypeId) (cs:List R)
 |eP (cs:List R)
abbrev U:=Nat->Option bs
def U.set (b:U) (c:Nat) (d:bs):U:=λa=>if a=c then some d else b a
def U.del (b:U) (c:Nat):U:=λa=>if a=c then none else b a
def U.emp:U:=λ_=>none
def U.sub (c d:U):Prop:= ∀a b,c a=some b->d a=some b
def rQ (c:bl) (a:MapEntry) (b:R×R×Nat):Prop:=aX c a.key b.1/\aX c a.val b.2.1/\a.born=b.2.2
def nY (k:bl) (a:Array MapEntry) (b:List (R×R×Nat)):Prop:=a.size=b.length/\ ∀(c:Nat) (d:MapEntry) (h:R×R×Nat),a[c]? =some d->b[c]? =some h->rQ k d h
def nY.mono {o p:bl} (r:o.le p) {x:Array MapEntry}{y:List (R×R×Nat)} (a:nY o x y):nY p x y:=
 ⟨a.1,λb c d h k=>⟨(a.2 b c d h k).1.mono r,(a.2 b c d h k).2.1.mono r,(a.2 b c d h k).2.2⟩⟩
def kY (d:bl) (h:World) (b:Nat):bs->Prop
 | .cells cs=>(∀k∈cs,k.one=true)/\ ∃a T,h.heap[b]? =some (.cells a T (0,0))/\bw d a cs/\ ∀c,d b c=none
 | .ro cs=>(∀k∈cs,k.one=true)/\ ∃a T x,h.heap[b]? =some (.cells a T x)/\bw d a cs/\ ∀c,c<a.size->d b c=some (a.getD c undef)
 | .buf o p cap=>0<o/\p<=cap/\cap<=maxLen/\ ∃a T,h.heap[b]? =some (.cells a T (0,0))/\a.size=cap*o/\ ∀c,p*o<=c->d b c=none
 | .it y pos=>h.heap[b]? =some (.stringIter y pos)
 | .mp us clock=> ∃r,h.heap[b]? =some (.map r clock)/\nY d r us
 | .wg z since seen C=>h.heap[b]? =some (.mapIter z since seen.toArray C)
 | .eP cs=>(∀k∈cs,k.one=true)/\ ∃a T,h.heap[b]? =some (.cells a T (a.size,a.size+1))/\bw d a cs/\ ∀c,d b c=none
 | .p5 T cs=>(∀k∈cs,k.one=true)/\ ∃a,h.heap[b]? =some (.cells a T (0,0))/\bw d a cs/\ ∀c,d b c=none
structure Holds (a:bl) (c:U) (w:World):Prop where
 ro: ∀b o v,a b o=some v->w.cell? ⟨b,o,none⟩=some v
 db: ∀l o,c l=some o->kY a w l o
structure Step (k:bl) (c:U) (w:World) (h:bl) (d:U) (a:World):Prop where
 holds:Holds h d a
 le:k.le h
 os:a.os=w.os
 tape:a.tape=w.tape
 output:a.output=w.output/\w.drawn<=a.drawn
 size:w.heap.size<=a.heap.size
 block: ∀b,b<w.heap.size->c b=none->a.heap[b]? =w.heap[b]?
 ef: ∀b,d b≠none->c b≠none\/w.heap.size<=b
 mM: ∀b o,h b o≠none->k b o≠none\/c b≠none\/w.heap.size<=b
 jE: ∀b cs,b<w.heap.size->c b=some (.ro cs)->a.heap[b]? =w.heap[b]? /\(d b=none\/ ∃p,d b=some (.ro p))
def Step.refl {b:bl}{c:U}{d:World} (a:Holds b c d):Step b c d b c d:=
 ⟨a,.refl b,rfl,rfl,⟨rfl,a7g _⟩,a7g _,λ_ _ _=>rfl,λ_ a=> .inl a,λ_ _ a=> .inl a,λ_ _ _ a=>⟨rfl,.inr ⟨_,a⟩⟩⟩
theorem Step.trans {C D E:bl}{F o r:U}{G L P:World} (b:Step C F G D o L) (c:Step D o L E r P):Step C F G E r P where
 holds:=c.holds
 le:=b.le.trans c.le
 os:=c.os.trans b.os
 tape:=c.tape.trans b.tape
 output:=⟨c.output.1.trans b.output.1,a7y b.output.2 c.output.2⟩
 size:=a7y b.size c.size
 block:=λa h x=>by
  have y:o a=none:=by
   cases d:o a with
   |none=>rfl
   |some p=>
     rcases b.ef a (by simp[d])with z|z
     .trivial
     .omega
  rw[c.block a (a7L h b.size) y,b.block a h x]
 ef:=λa h=>by
  rcases c.ef a h with d|d
  .exact b.ef a d
  .exact .inr (a7y b.size d)
 mM:=λa p h=>by
  rcases c.mM a p h with d|d|d
  .exact b.mM a p d
  .exact .inr (b.ef a d)
  .exact .inr (.inr (a7y b.size d))
 jE:=λa T h x=>by
  obtain⟨y,k⟩:=b.jE a T h x;have S:=a7L h b.size;rcases k with k|⟨V,k⟩
  .refine⟨by rw[c.block a S k,y],.inl ?_⟩;cases d:r a with
   |none=>rfl
   |some p=>
     rcases c.ef a (by simp[d])with z|z
     .trivial
     .omega
  .obtain⟨W,e⟩:=c.jE a V S k;simp_all
variable{f s e0:U}{e i v M b9 j2:Nat}{l h9:World}
def Holds.lt (a:Holds u f l) {v:Value} (b:u e i=some v):e<l.heap.size:=
 World.block_lt_of_cell? l _ (a.ro e i v b)
def Holds.mN (b:Holds u f l) (a:Nat):u l.heap.size a=none:=by
 cases c:u l.heap.size a with
 |none=>rfl
 |some v=>have:=b.lt c;omega
variable{X j8:bs}
theorem kY.lt (a:kY u l e X):e<l.heap.size:=by
 cases X with
 |cells cs=>obtain⟨_,c,T,b,_⟩:=a;grind
 |ro cs=>obtain⟨_,c,T,d,b,_⟩:=a;grind
 |buf h k cap=>obtain⟨_,_,_,c,T,b,_⟩:=a;grind
 |it o pos=>exact(a7P.1 a).1
 |mp us clock=>obtain⟨p,b,_⟩:=a;grind
 |wg r since seen x=>exact(a7P.1 a).1
 |p5 T cs=>obtain⟨_,c,b,_⟩:=a;grind
 |eP cs=>obtain⟨_,c,T,b,_⟩:=a;grind
def Holds.ef (a:Holds u f l):f l.heap.size=none:=by
 cases b:f l.heap.size with
 |none=>rfl
 |some v=>have:=(a.db _ _ b).lt;omega
theorem kY.kept {x:bl} (o:kY u h9 e X) (r:u.le x) (p:l.heap[e]? =h9.heap[e]?) (L: ∀a,x e a≠none->u e a≠none):kY x l e X:=by
 have y: ∀a,u e a=none->x e a=none:=λa z=>by
  grind
 cases X with
 |cells cs=>obtain⟨c,d,T,b,h,k⟩:=o;exact⟨c,d,T,by rw[p];exact b,h.mono r,λa=>y a (k a)⟩
 |ro cs=>obtain⟨c,d,T,C,b,h,k⟩:=o;exact⟨c,d,T,C,by rw[p];exact b,h.mono r,λa z=>r _ _ _ (k a z)⟩
 |buf P S cap=>obtain⟨c,D,E,d,T,b,h,k⟩:=o;exact⟨c,D,E,d,T,by rw[p];exact b,h,λa z=>y a (k a z)⟩
 |it V pos=>exact by show l.heap[e]? = _;rw[p];exact o
 |mp us clock=>obtain⟨F,b,G⟩:=o;exact⟨F,by rw[p];exact b,G.mono r⟩
 |wg W since seen f=>exact by show l.heap[e]? = _;rw[p];exact o
 |p5 T cs=>obtain⟨c,d,b,h,k⟩:=o;exact⟨c,d,by rw[p];exact b,h.mono r,λa=>y a (k a)⟩
 |eP cs=>obtain⟨c,d,T,b,h,k⟩:=o;exact⟨c,d,T,by rw[p];exact b,h.mono r,λa=>y a (k a)⟩
def Holds.drop (a:Holds u f l) (d:s.sub f):Holds u s l:=⟨a.ro,λb c h=>a.db b c (d b c h)⟩
theorem Step.drop {o p:bl}{r x c:U}{y z:World} (a:Step o r y p x z) (d:c.sub x):Step o r y p c z where
 holds:=a.holds.drop d
 le:=a.le
 os:=a.os
 tape:=a.tape
 output:=a.output
 size:=a.size
 block:=a.block
 ef:=λb C=>a.ef b (by
  cases h:c b with
  |none=>trivial
  |some k=>simp[d b k h])
 mM:=a.mM
 jE:=λb D C h=>by
  obtain⟨E,G⟩:=a.jE b D C h;refine⟨E,?_⟩;cases F:c b with
  |none=>simp
  |some k=>have L:=d b k F;simp_all
def Holds.drew {a:bl}{b:U}{c:World} (d:Holds a b c):Holds a b c.drew:=⟨d.ro,λh k o=>by
 have:=d.db h k o;trivial⟩
def Step.drew {b:bl}{c:U}{d:World} (a:Holds b c d):Step b c d b c d.drew:=
 ⟨a.drew,.refl b,rfl,rfl,⟨rfl,Nat.le_succ _⟩,a7g _,λ_ _ _=>rfl,λ_ a=> .inl a,λ_ _ a=> .inl a,λ_ _ _ a=>⟨rfl,.inr ⟨_,a⟩⟩⟩
def up (b:R->U->Prop):R->U->Prop:=λv c=> ∃a,a.sub c/\b v a
def hM (x:Program) (y:FuncId) (z:List R) (k:U) (C D:R->U->Prop):Prop:=
 ∀(o:Array Value) (d:World) (h:bl),bw h o z->Holds h k d->
  Calls x y o d λp r=>(∃v a b c,p= .returned v/\Step h k d b c r/\aX b v a/\C a c)\/
   (∃v a b c,p= .panicked [{v,recovered:=false}]/\Step h k d b c r/\aX b v a/\D a c)
theorem hM.mono {c:Program}{d:FuncId}{h:List R}{k:U}{o p r x:R->U->Prop} (y:hM c d h k o r) (G: ∀a b,o a b->p a b) (L: ∀a b,r a b->x a b):hM c d h k p x:=
 λz C D E F=>(y z C D E F).mono λ_ _ P=>by
  grind
def AC (p:Program) (r:FuncId) (x:List R) (c:U) (y:R->U->Prop):Prop:=
 ∀(d:Array Value) (a:World) (b:bl),bw b d x->Holds b c a->
  Calls p r d a λz C=> ∃v h k o,z= .returned v/\Step b c a k o C/\aX k v h/\y h o
variable{t Z:R -> U -> Prop}{b5:FuncId}{g B c0:List R}{m:Program}
def AC.p (a:AC m b5 g f t):hM m b5 g f t Z:=
 λb c d h k=>(a b c d h k).mono λ_ _ o=> .inl o
def hM.HU (b:hM m b5 g f t (up λ_ _=>False)):AC m b5 g f t:=
 λc d h k o=>(b c d h k o).mono λ_ _ a=>by
  rcases a with a|⟨v,p,r,x,y,z,C,_,_,D⟩
  .exact a
  .trivial
def AC.mono {c:Program}{d:FuncId}{h:List R}{k:U}{o p:R->U->Prop} (r:AC c d h k o) (x: ∀a b,o a b->p a b):AC c d h k p:=
 λy z C D E=>(r y z C D E).mono λ_ _ ⟨v,a,F,b,G,L,P,S⟩=>⟨v,a,F,b,G,L,P,x _ _ S⟩
def Shift (k:List R) (c:U) (o:List R) (p:U):Prop:=
 ∀(d:Array Value) (a:World) (b:bl),bw b d k->Holds b c a-> ∃h,bw h d o/\Step b c a h p a
def AC.pre (d:AC m b5 B f t) (h:Shift g s B f):AC m b5 g s t:=
 λa b k o p=>by
  obtain⟨r,x,c⟩:=h a b k o p;exact(d a b r x c.holds).mono λ_ _ ⟨v,y,z,f,C,D,E,F⟩=>⟨v,y,z,f,C,c.trans D,E,F⟩
def U.qm (b c:U):Prop:= ∀a,b a=none\/c a=none
def U.join (b c:U):U:=λa=>(b a).or (c a)
def U.mO (a:f e=some X):(f.join s) e=some X:=by simp[U.join,a]
def U.p6 (a:f e=none):(f.join s) e=s e:=by simp[U.join,a]
def Step.frame {z:bl} (c:Step u f l z e0 h9) (C:f.qm s) (L:Holds u (f.join s) l):
  Step u (f.join s) l z (e0.join s) h9/\e0.qm s:=by
 have D: ∀b d,s b=some d->f b=none/\kY u l b d:=λb d r=>by
  have a:=(C b).resolve_right (by simp[r]);exact⟨a,L.db b d (by rw[U.p6 a];exact r)⟩
 have E:e0.qm s:=λb=>by
  cases r:s b with
  |none=>simp
  |some d=>
   left;obtain⟨y,o⟩:=D b d r;cases a:e0 b with
   |none=>rfl
   |some F=>
     rcases c.ef b (by simp[a])with p|p
     .trivial
     .have:=o.lt;omega
 refine⟨⟨⟨c.holds.ro,λb d r=> ?_⟩,c.le,c.os,c.tape,c.output,c.size,λh x a=> ?_,λh x=> ?_,λh d x=> ?_,λh G x a=> ?_⟩,E⟩
 .cases a:e0 b with
  |some F=>rw[U.mO a]at r;obtain rfl:=a6x r;exact c.holds.db b F a
  |none=>
   rw[U.p6 a]at r;obtain⟨y,o⟩:=D b d r;refine o.kept c.le (c.block b o.lt y) λP S=> ?_;rcases c.mM b P S with p|p|p
   .exact p
   .trivial
   .have:=o.lt;omega
 .exact c.block h x (by
   cases k:f h with
   |none=>rfl
   |some d=>rw[U.mO k]at a;cases a)
 .cases a:e0 h with
  |some d=>
   rcases c.ef h (by simp[a])with p|p
   .left;cases k:f h with
    |none=>trivial
    |some d=>simp[U.mO k]
   .omega
  |none=>
   rw[U.p6 a]at x;left;cases k:f h with
   |some d=>simp[U.mO k]
   |none=>rw[U.p6 k];exact x
 .rcases c.mM h d x with p|p|p
  .exact .inl p
  .right;left;cases k:f h with
   |none=>trivial
   |some d=>simp[U.mO k]
  .omega
 .cases k:f h with
  |some d=>
   rw[U.mO k]at a;obtain rfl:=a6x a;obtain⟨y,o⟩:=c.jE h G x k;refine⟨y,?_⟩;rcases o with o|⟨T,o⟩
   .rw[U.p6 o];left;exact(C h).resolve_left (by simp[k])
   .exact .inr ⟨T,U.mO o⟩
  |none=>rw[U.p6 k]at a;refine⟨c.block h x k,.inr ⟨G,?_⟩⟩;rw[U.p6 ((E h).resolve_right (by simp[a]))];exact a
def U.HV (a b:U):a.sub (a.join b):=λ_ _ c=>U.mO c
def hM.frame {z:Program}{C:FuncId}{D:List R}{d b:U}{E F:R->U->Prop} (G:hM z C D d E (up F)) (o:d.qm b):
  hM z C D (d.join b) (λc L=> ∃a,E c a/\a.qm b/\L=a.join b) (up F):=
 λP S T V h=>(G P S T V (h.drop (U.HV d b))).mono λ_ _ W=>by
  rcases W with ⟨v,c,p,a,r,k,x,y⟩|⟨v,c,p,a,r,k,x,e,f,y⟩
  .exact .inl ⟨v,c,p,a.join b,r,(k.frame o h).1,x,a,y,(k.frame o h).2,rfl⟩
  .exact .inr ⟨v,c,p,a.join b,r,(k.frame o h).1,x,e,λg i j=>U.mO (f g i j),y⟩
theorem qn (a:World) (c:Obj) (b:Nat) (d:b≠a.heap.size):(a.alloc c).heap[b]? =a.heap[b]? :=by show(a.heap.push c)[b]? = _;grind
theorem U.ai (c:U) (a:Nat) (b:bs):(c.set a b) a=some b:=by simp[U.set]
theorem U.an (a:U) (b:bs) (c:e≠i):(a.set i b) e=a e:=by simp[U.set,c]
theorem U.iB (b:U) (a:Nat):(b.del a) a=none:=by simp[U.del]
theorem U.eH (a:U) (b:e≠i):(a.del i) e=a e:=by simp[U.del,b]
def bl.ext (c:bl) (d h:Nat) (k:Array Value):bl:=λb a=>if b=d/\a<h then k[a]? else c b a
theorem bl.p7 (d:bl) (a b:Nat) (c:Array Value) (h:e<b):(d.ext a b c) a e=c[e]? :=by simp[bl.ext,h]
theorem bl.p8 (a:bl) (b c:Nat) (d:Array Value) (h: ¬(e=b/\i<c)):(a.ext b c d) e i=a e i:=by simp[bl.ext,h]
theorem Step.write {T:Nat×Nat} (z:Holds u f l) (c o:Nat) (k:Array Value) (V:TypeId) (r:U)
  (W:h9.os=l.os) (e:h9.tape=l.tape) (x:(h9.output,h9.drawn)=(l.output,l.drawn)) (g:l.heap.size<=h9.heap.size)
  (i:h9.heap[c]? =some (.cells k V T)) (C: ∀a,a<l.heap.size->a≠c->h9.heap[a]? =l.heap[a]?)
  (B:c=l.heap.size\/(f c≠none/\ ∀D,f c≠some (.ro D)))
  (H:o<=k.size) (j: ∀b v,u c b=some v->k[b]? =some v)
  (m: ∀h b,h≠c->r h=some b->f h=some b)
  (n: ∀b,r c=some b->kY (u.ext c o k) h9 c b):Step u f l (u.ext c o k) r h9:=by
 have E:u.le (u.ext c o k):=λa b v p=>by
  by_cases d:a=c/\b<o
  .obtain⟨rfl,q⟩:=d;rw[bl.p7 _ _ _ _ q];exact j b v p
  .rw[bl.p8 _ _ _ _ d];exact p
 have F: ∀a,a≠c-> ∀y,(u.ext c o k) a y=u a y:=λa d y=>bl.p8 _ _ _ _ (λs=>d s.1);have x:h9.output=l.output/\l.drawn<=h9.drawn:=⟨congrArg Prod.fst x,aaP (congrArg Prod.snd x).symm⟩;refine⟨⟨λa b v p=> ?_,λh b G=> ?_⟩,E,W,e,x,g,λa d t=> ?_,λa d=> ?_,λa b d=> ?_,λa D d t=> ?_⟩
 .by_cases d:a=c
  .subst d;simp only[World.cell?,i,a8t,a7H,if_false];grind[bl.p7,bl.p8]
  .rw[F a d]at p;have:=z.ro a b v p;have w:=z.lt p;rw[<-this];exact World.cell?_of_block (C a w d)
 .by_cases d:h=c
  .subst d;exact n b G
  .have L:=z.db h b (m h b d G);exact L.kept E (C h L.lt d) (λy P=>by rw[F h d]at P;exact P)
 grind
 .by_cases S:a=c;grind
  .left;cases A:r a with
   |none=>trivial
   |some b=>simp_all
 grind
 .have S:a≠c:=by grind
  refine⟨C a d S,?_⟩;cases A:r a with
  |none=>simp
  |some b=>simp_all
def bl.qo (a:bl) (b:Nat) (c:Array Value):a.ext b 0 c=a:=by funext d h;simp[bl.ext]
def Step.new (d:Holds u f l) (a:Array Value) (b:TypeId) (c:List R) (r: ∀x∈c,x.one=true) (y:bw u a c):
  Step u f l u (f.set l.heap.size (.cells c)) (l.alloc (.cells a b)):=by
 have:=Step.write (h9:=l.alloc (.cells a b)) d l.heap.size 0 a b (f.set l.heap.size (.cells c)) rfl rfl rfl aaV (heap_alloc_new l _) (λz _ C=>qn l _ z C) (.inl rfl)
  (a7b _) (λh v k=>by rw[d.mN]at k;cases k) (λE h D o=>by rw[U.an _ _ D]at o;exact o)
  (λh p=>by
   rw[U.ai]at p;obtain rfl:=a6x p;rw[bl.qo];exact⟨r,a,b,heap_alloc_new l _,y,d.mN⟩)
 rwa[bl.qo]at this
def putAt (a:List R) (b:Nat) (c:List R):List R:=a.take b++c++a.drop (b+c.length)
theorem eI (a:List R) (b:Nat) (c:List R) (d:b+c.length<=a.length):(putAt a b c).length=a.length:=by simp[putAt];omega
def dc (a:Array Value) (b:Nat) (c:List Value):Array Value:=(a.toList.take b++c++a.toList.drop (b+c.length)).toArray
theorem bw.dU {c:Array Value}:bw u c g↔c.toList.length=g.length/\ ∀(a:Nat) (h:Value) (b:R),c.toList[a]? =some h->g[a]? =some b->aX u h b:=by
 constructor
 .rintro⟨o,k⟩;refine⟨by trivial,λa h b r d=> ?_⟩;have:=k a b d;simp_all
 .rintro⟨o,k⟩;refine⟨by trivial,λa b d=> ?_⟩;have x:=(a6H.1 d).1;have p:a<c.size:=by simp at o;omega
  refine k a _ b ?_ d;simp[p]
theorem bw.putAt {a:bl}{h:Array Value}{b c:List R}{k:Array Value} (o:bw a h b) (p:bw a k c) (d:Nat) (r:d+c.length<=b.length):
  bw a (dc h d k.toList) (putAt b d c):=by
 grind[bw.dU,dc,Go.bD.putAt,List.length_append,List.length_take,List.length_drop,List.append_assoc,List.getElem?_append_left]
theorem tR (c: ∀a∈g,a.one=true) (d: ∀a∈B,a.one=true) (b:Nat): ∀a∈putAt g b B,a.one=true:=by grind[putAt,List.mem_of_mem_take,List.mem_of_mem_drop]
theorem bw.nX {k:bl}{c:Array Value}{a:List R} (o:bw k c a) (p: ∀r∈a,r.one=true): ∀b∈c.toList,b.oneCell'=true:=by
 intro b x;obtain⟨d,y⟩:=a9p x;obtain⟨C,z⟩:=bw.dU.1 o;have h:d<a.length:=by grind
 exact(z d b _ y (a6y h)).nX (p _ (a6Z h))
def Step.store (k:Holds u f l) (o:f e=some (.cells g)) (b:Nat) (c:List R) (d:Array Value) (D:bw u d c)
  (E: ∀F∈c,F.one=true) (G:b+c.length<=g.length):
  ∃a T,l.heap[e]? =some (.cells a T (0,0))/\a.size=g.length/\Step u f l u (f.set e (.cells (putAt g b c))) (l.setRow e (dc a b d.toList)):=by
 obtain⟨L,a,T,h,p,r⟩:=k.db e _ o;refine⟨a,T,h,p.1,?_⟩;have:=Step.write (h9:=l.setRow e (dc a b d.toList)) k e 0 (dc a b d.toList) T (f.set e (.cells (putAt g b c))) rfl rfl rfl aaV (setRow_heap l e a _ T _ h)
  (λP _ S=>setRow_other l e P _ S) (.inr (by simp[o])) (a7b _) (λx v y=>by rw[r]at y;cases y) (λW x V z=>by rw[U.an _ _ V]at z;exact z)
  (λx C=>by
   rw[U.ai]at C;obtain rfl:=a6x C;rw[bl.qo];exact⟨tR L E b,_,T,setRow_heap l e a _ T _ h,p.putAt D b G,r⟩)
 rwa[bl.qo]at this
def HW (a:Array Value) (b:Nat) (c:List Value) (d:b+c.length<=a.size):(dc a b c).size=a.size:=by simp[dc];omega
def Step.HX (o:Holds u f l) (p:f e=some (.eP g)) (b:Nat) (c:List R) (d:Array Value) (r:bw u d c)
  (F: ∀G∈c,G.one=true) (x:b+c.length<=g.length):
  ∃a T,l.heap[e]? =some (.cells a T (a.size,a.size+1))/\a.size=g.length/\Step u f l u (f.set e (.eP (putAt g b c))) (l.setRow e (dc a b d.toList)):=by
 obtain⟨L,a,T,h,k,y⟩:=o.db e _ p;refine⟨a,T,h,k.1,?_⟩;have P:d.toList.length=c.length:=by have:=r.1;trivial
 have S:=HW _ _ _ (by rw[P,k.1];exact x);have:=Step.write (h9:=l.setRow e (dc a b d.toList)) o e 0 (dc a b d.toList) T (f.set e (.eP (putAt g b c))) rfl rfl rfl aaV (setRow_heap l e a _ T _ h)
  (λV _ W=>setRow_other l e V _ W) (.inr (by simp[p])) (a7b _) (λz v C=>by rw[y]at C;cases C) (λj z i D=>by rw[U.an _ _ i]at D;exact D)
  (λz E=>by
   rw[U.ai]at E;obtain rfl:=a6x E;rw[bl.qo];exact⟨tR L F b,_,T,by rw[S];exact setRow_heap l e a _ T _ h,k.putAt r b x,y⟩)
 rwa[bl.qo]at this
theorem Step.wh (k:Holds u f l) (b:f e=some (.cells g)\/(∃T,f e=some (.p5 T g))\/f e=some (.eP g)):
  ∃C,Step u f l C (f.set e (.ro g)) l:=by
 obtain⟨o,p,a,T,z,c,r,x⟩:(f e≠none/\ ∀g,f e≠some (.ro g))/\(∀D∈g,D.one=true)/\ ∃a T z,l.heap[e]? =some (.cells a T z)/\bw u a g/\ ∀d,u e d=none:=by
  rcases b with b|⟨T,b⟩|b
  .obtain⟨p,a,T,c,r,x⟩:=k.db e _ b;simp_all
  .obtain⟨p,a,c,r,x⟩:=k.db e _ b;simp_all
  .obtain⟨p,a,T,c,r,x⟩:=k.db e _ b;simp_all
 refine⟨u.ext e a.size a,Step.write k e a.size a T _ rfl rfl rfl (a7g _) c (λ_ _ _=>rfl) (.inr o) (a7g _) (λd v y=>by rw[x]at y;cases y)
  (λG d E o=>by rw[U.an _ _ E]at o;exact o) (λd h=> ?_)⟩
 rw[U.ai]at h;obtain rfl:=a6x h;have F:u.le (u.ext e a.size a):=λL d v y=>by
  rw[bl.p8 _ _ _ _ (λc=>by simp_all)];exact y
 refine⟨p,a,T,z,c,r.mono F,λd h=> ?_⟩;rw[bl.p7 _ _ _ _ h];simp[h]
def Step.freeze (a:Holds u f l) (b:f e=some (.cells g)): ∃c,Step u f l c (f.set e (.ro g)) l:=Step.wh a (.inl b)
theorem bw.sub {c:Array Value} (d:bw u c g) (a b:Nat) (h:a+b<=g.length):bw u (c.extract a (a+b)) ((g.drop a).take b):=by grind[bw.dU,List.getElem?_eq_some_iff,List.getElem?_take_of_lt,Array.getElem?_extract]
theorem Step.other (o:Holds u f l) (c:Nat) (ob:bs)
  (D:h9.os=l.os) (E:h9.tape=l.tape) (h:(h9.output,h9.drawn)=(l.output,l.drawn)) (F:l.heap.size<=h9.heap.size)
  (x: ∀a,a<l.heap.size->a≠c->h9.heap[a]? =l.heap[a]?) (T:c=l.heap.size\/(f c≠none/\ ∀y,f c≠some (.ro y))) (G: ∀d,u c d=none)
  (V:kY u h9 c ob):Step u f l u (f.set c ob) h9:=by
 have h:h9.output=l.output/\l.drawn<=h9.drawn:=⟨congrArg Prod.fst h,aaP (congrArg Prod.snd h).symm⟩;refine⟨⟨λa d v k=> ?_,λp d r=> ?_⟩,.refl u,D,E,h,F,λa b L=> ?_,λa b=> ?_,λa d b=> .inl b,λa y b L=> ?_⟩
 .have b:a≠c:=by rintro rfl;rw[G]at k;cases k
  have P:=o.lt k;rw[<-o.ro a d v k];exact World.cell?_of_block (x a P b)
 .by_cases b:p=c
  .subst b;rw[U.ai]at r;simp_all
  .rw[U.an _ _ b]at r;have z:=o.db p d r;exact z.kept (.refl u) (x p z.lt b) (λW S=>S)
 grind
 .by_cases C:a=c;grind
  .rw[U.an _ _ C]at b;exact .inl b
 .have C:a≠c:=by grind
  grind[U.an]
def Step.AM (b:Holds u f l) (c:Obj) (a:bs) (d:kY u (l.alloc c) l.heap.size a):Step u f l u (f.set l.heap.size a) (l.alloc c):=
 .other b _ a rfl rfl rfl aaV (λh _ k=>qn l _ h k) (.inl rfl) b.mN d
theorem Holds.HY (c:Holds u f l) {b:Obj} (p:l.heap[e]? =some b) (r: ∀d h k,b≠ .cells d h k) (a:Nat):u e a=none:=by
 cases o:u e a with
 |none=>rfl
 |some v=>exfalso;have:=c.ro e a v o;grind[World.cell?,Option.some.inj]
def Step.AN (a:Holds u f l) {b c:Obj} (d:f e≠none/\ ∀h,f e≠some (.ro h)) (k:l.heap[e]? =some b) (o: ∀p r x,b≠ .cells p r x) (y:kY u {l with heap:=l.heap.setIfInBounds e c} e X):
  Step u f l u (f.set e X) {l with heap:=l.heap.setIfInBounds e c}:=
 .other a e X rfl rfl rfl aaV (λC _ z=>a9P (a6I z)) (.inr d) (a.HY k o) y
theorem tS (y:Program) (d b:Nat) (r:TypeId) (k:Nat×Nat): ∀(o:List Value) (a:Nat) (c:Array Value) (h:World),h.heap[d]? =some (.cells c r k)->(∀p,p<c.size-> ¬(k.1<=p/\p<k.2))->b+a+o.length<=c.size->(∀v∈o,v.oneCell'=true)->
  (storeCells ⟨d,b,none⟩ o a).run y h= .ok () (h.setRow d (c.toList.take (b+a)++o++c.toList.drop (b+a+o.length)).toArray)
 | [],a,c,h,x,_,_,_=>by
  simp only[storeCells,a7E,a6G,a8A,a7f,Array.toArray_toList];rw[setRow_self h d c r k x];rfl
 |v::rest,a,c,h,x,C,z,h1=>by
  have L:b+a<c.size:=by simp at z;omega
  have P:(⟨d,b,none⟩:Addr).add a=⟨d,b+a,none⟩:=by unfold Addr.add;simp
  have S:h.cell? ⟨d,b+a,none⟩=some c[b+a]:=by simp[World.cell?,x]
  have T:h.frozen? ⟨d,b+a,none⟩=false:=by grind[World.frozen?,Bool.and_eq_false_iff,decide_eq_false_iff_not]
  have D:(store ((⟨d,b,none⟩:Addr).add a) v).run y h= .ok () (h.setRow d (c.setIfInBounds (b+a) v)):=by grind[run_store,setCell_eq_setRow]
  have ih:=tS y d b r k rest (a+1) (c.setIfInBounds (b+a) v) (h.setRow d (c.setIfInBounds (b+a) v)) (setRow_heap h d c _ r _ x) (λp E=>C p (by simpa using E)) (by simp at z|-;omega) (λF G=>h1 F (by simp[G]));simp only[storeCells,Sem.run_bind,D,Result.andThen_ok,ih,setRow_setRow];congr 3;have V:=list_seg_step c.toList (b+a) v rest (by simp at z|-;omega);grind
def wi (b:Nat): ∀a,a<b-> ¬(((0,0):Nat×Nat).1<=a/\a<((0,0):Nat×Nat).2):=λa _=>by simp
section
structure Src (a:Program) (w:World) (k m:Nat) (x:Value) (b:List Value):Prop where
 len:(Builtin.lenOf x).run a w= .ok m w
 cells:(Builtin.firstCells k m x).run a w= .ok b.toArray w
 HZ:(Builtin.firstCells k m x).run a w.drew= .ok b.toArray w.drew
 size:b.length=m*k
def AO (b:World) (z C S D:TypeId) (c:TypeInfo) (T:m.underlying z=some (.slice D)) (p:TypeDesc) (V:m.underlying C=some p) (W:(∃E,p= .slice E)\/p= .string)
  (e:m.info? D=some c) (d a r:Nat) (k:Array Value) (F:TypeId) (o:Nat×Nat) (f:b.heap[d]? =some (.cells k F o)) (g: ∀x,x<k.size-> ¬(o.1<=x/\x<o.2))
  (y:Nat) (G:Value) (h:List Value) (L:Src m b c.size y G h) (i: ∀j∈h,j.oneCell'=true) (l:a+y<=r) (t:a*c.size+h.length<=k.size):
  (Builtin.append_ #[z,C] S #[.slice (some ⟨d,0,none⟩) a r,G]).run m b= .ok (.slice (some ⟨d,0,none⟩) (a+y) r) (b.setRow d (dc k (a*c.size) h)):=by
 have P:=tS m d (a*c.size) F o h 0 k b f g (by trivial) i;simp only[a8A]at P;have n:(storeCells ⟨d,a*c.size,none⟩ h).run m b= .ok () (b.setRow d (dc k (a*c.size) h)):=by rw[P];rfl
 have q:=λs=>run_underlying V s;rcases W with ⟨E,rfl⟩|rfl<;>simp[Builtin.append_,run_underlying T,q,sizeOf,typeInfo,e,L.len,l,L.cells,Addr.add_lit,n]
def I0 (b:World) (C D T E:TypeId) (c:TypeInfo) (V:m.underlying C=some (.slice E)) (r:TypeDesc) (W:m.underlying D=some r) (e:(∃F,r= .slice F)\/r= .string)
  (f:m.info? E=some c) (d h a x:Nat) (o:Array Value) (G:TypeId) (p:Nat×Nat) (g:b.heap[d]? =some (.cells o G p)) (i: ∀y,y<o.size-> ¬(p.1<=y/\y<p.2))
  (z:Nat) (L:Value) (k:List Value) (P:Src m b c.size z L k) (j: ∀l∈k,l.oneCell'=true) (n:a+z<=x) (u:h+a*c.size+k.length<=o.size):
  (Builtin.append_ #[C,D] T #[.slice (some ⟨d,h,none⟩) a x,L]).run m b= .ok (.slice (some ⟨d,h,none⟩) (a+z) x) (b.setRow d (dc o (h+a*c.size) k)):=by
 have S:=tS m d (h+a*c.size) G p k 0 o b g i (by trivial) j;simp only[a8A]at S;have q:(storeCells ⟨d,h+a*c.size,none⟩ k).run m b= .ok () (b.setRow d (dc o (h+a*c.size) k)):=by rw[S];rfl
 have s:=λt=>run_underlying W t;rcases e with ⟨F,rfl⟩|rfl<;>simp[Builtin.append_,run_underlying V,s,sizeOf,typeInfo,f,P.len,n,P.cells,Addr.add_mid,q]
theorem qp (c:World) (r x G k:TypeId) (d:TypeInfo) (y:Value) (L:m.underlying r=some (.slice k)) (o:TypeDesc) (P:m.underlying x=some o) (S:(∃z,o= .slice z)\/o= .string)
  (T:m.info? k=some d) (V:d.zero=some y) (C:Option Addr) (a h:Nat) (p:List Value) (q:p.length=a*d.size)
  (W:(Builtin.firstCells d.size a (.slice C a h)).run m c.drew= .ok p.toArray c.drew)
  (b:Nat) (D:Value) (E:List Value) (F:Src m c d.size b D E) (e:h<a+b) (s:((a+b:Nat):Int)<=9223372036854775807) (f:(a+b)*d.bytes<=140737488355328):
  (Builtin.append_ #[r,x] G #[.slice C a h,D]).run m c=
   .ok (.slice (some ⟨c.heap.size,0,none⟩) (a+b) (grownCap c (a+b) h k))
    (c.drew.alloc (.cells (p.toArray++E.toArray++Builtin.zeroCells y.cells (grownCap c (a+b) h k -(a+b))) k)):=by
 have g: ¬(a+b<=h):=aaU;have i: ¬(9223372036854775807<((a)+(b:Int))):=aaU;have j: ¬(281474976710656<Builtin.nextslicecap (a+b) h*d.bytes):=by have:=growslice_fits e f;omega
 have l:=λn=>run_underlying P n;rcases S with ⟨z,rfl⟩|rfl
 all_goals
  simp[Builtin.append_,run_underlying L,l,sizeOf,typeInfo,zeroValue,T,V,F.len,g,i,j,Question.forced,F.HZ,W,newRow,grownCap];grind
end
abbrev Fr:=Nat->R
def lU (b:Fr) (c:Nat) (d:R):Fr:=λa=>if a=c then d else b a
def dh (b:Fr) (a:Option Nat) (c:R):Fr:=
 match a with
 |some a=>lU b a c
 |none=>b
def cw:Value->R
 | .slice none 0 0=> .J [] .nil
 |a=> .v a
def ofConst:Value->R
 | .agg cs=> .agg (cs.toList.map cw)
 | .tuple cs=> .aJ (cs.toList.map cw)
 |a=>cw a
def rR:Value->Bool
 | .agg cs=>cs.toList.all (·.oneCell')
 | .tuple cs=>cs.toList.all (·.oneCell')
 |a=>a.oneCell'
def aQ:Operand->Bool
 | .const v=>rR v
 | _=>true
def al (a:Fr):Operand->R
 | .tmp b=>a b
 | .const v=>ofConst v
 | .global c=> .ptr c 0
 | .func d=> .bG d [] []
theorem aX.cw (b:bl) (a:Value) (c:a.oneCell'=true):aX b a (cw a):=by
 unfold Go.bD.cw;split
 .exact .dg _ _ _ (λ_=>rfl) rfl
 .exact .v a c
def nZ (a:Value):(cw a).one=true:=by unfold cw;split<;>rfl
def bw.p9 (c:bl) (b:Array Value) (k: ∀a∈b.toList,a.oneCell'=true):bw c b (b.toList.map Go.bD.cw):=by
 refine bw.dU.2 ⟨aaV,λp a o d h=> ?_⟩;rw[a7d,d]at h;obtain rfl:cw a=o:=by simpa using h
 exact aX.cw c a (k a (a6D d))
def aX.ofConst (d:bl) (a:Value) (c:rR a=true):aX d a (ofConst a):=by
 cases a<;>first
  |exact aX.cw d _ c
  |skip
 case agg b=>
  have h: ∀a∈b.toList,a.oneCell'=true:=by simp only[rR,a6P]at c;exact c
  obtain⟨k,o⟩:=bw.p9 d b h;refine .agg b _ (λr p=> ?_) k o;obtain⟨a,_,rfl⟩:=a6S.1 p;exact nZ a
 case tuple b=>
  have h: ∀a∈b.toList,a.oneCell'=true:=by simp only[rR,a6P]at c;exact c
  obtain⟨k,o⟩:=bw.p9 d b h;exact .aJ b _ k o
def bO (b:bl) (c:Act) (d:Fr):Prop:= ∀a,aX b (c.tmps.getD a undef) (d a)
theorem bO.al {c:bl}{d:Act}{h:Fr} (a:bO c d h) (b:Operand) (k:aQ b=true):aX c (d.eval b) (al h b):=by
 cases b with
 |tmp o=>exact a o
 |const v=>exact aX.ofConst c v k
 |global p=>exact .ptr p 0
 |func r=>exact .bG r #[] #[] [] [] rfl (λx y a=>by simp at a) rfl (λx y a=>by simp at a)
def bO.mono {b c:bl}{a:Act}{d:Fr} (h:bO b a d) (k:b.le c):bO c a d:=λo=>(h o).mono k
theorem bO.put {d:bl}{a:Act}{h:Fr} (k:bO d a h) (b:Option Nat) (r: ∀c,b=some c->c<a.tmps.size) {v:Value}{o:R} (x:aX d v o):bO d (a.put b v) (dh h b o):=by
 cases b with
 |none=>exact k
 |some b=>
  intro c;have y:=r b rfl;by_cases p:c=b;simp_all [dh,lU,Act.put]
  .simp only[dh,lU,if_neg p,Act.put];rw[a7w,a9P (a6I p),<-a7w];exact k c
def aL (b:Bool) (c:Nat) (a:List R):R:=if b then .agg (a.take c)else a.headD (.aJ [])
def U.read (a:U) (l:Nat):Option (List R):=
 match a l with
 |some (.cells cs)=>some cs
 |some (.ro cs)=>some cs
 |some (.p5 _ cs)=>some cs
 |some (.eP cs)=>some cs
 | _=>none
def er (a b:Nat) (c:List R):List R:=if a=1 then c.take b else(List.range b).map λd=> .agg ((c.drop (d*a)).take a)
def hN (d:BinOp) (a:IntKind) (c b:Int):Option Value:=
 match d with
 | .add=>some (.int a (a.wrap (c+b)))
 | .sub=>some (.int a (a.wrap (c - b)))
 | .mul=>some (.int a (a.wrap (c*b)))
 | .quo=>if b=0 then none else some (.int a (a.wrap (c.tdiv b)))
 | .rem=>if b=0 then none else some (.int a (c.tmod b))
 | .and=>some (.int a (a.wrap (BitVec.ofInt a.bits c&&&BitVec.ofInt a.bits b).toNat))
 | .or=>some (.int a (a.wrap (BitVec.ofInt a.bits c|||BitVec.ofInt a.bits b).toNat))
 | .xor=>some (.int a (a.wrap (BitVec.ofInt a.bits c^^^BitVec.ofInt a.bits b).toNat))
 | .andNot=>some (.int a (a.wrap (BitVec.ofInt a.bits c&&& ~~~(BitVec.ofInt a.bits b)).toNat))
 | .eql=>some (.bool (decide (c=b)))
 | .neq=>some (.bool (decide (c≠b)))
 | .lss=>some (.bool (decide (c<b)))
 | .leq=>some (.bool (decide (c<=b)))
 | .gtr=>some (.bool (decide (b<c)))
 | .geq=>some (.bool (decide (b<=c)))
 | _=>none
def o0 (d:BinOp) (a:IntKind) (c b:Int):Option Value:=
 if b<0 then none else
 match d with
 | .shl=>some (.int a (a.wrap (c*2^(min b.toNat a.bits))))
 | .shr=>some (.int a (c.fdiv (2^(min b.toNat a.bits))))
 | _=>none
def ft:BinOp->Bool
 | .shl| .shr=>true
 | _=>false
def qq (c:BinOp) (a b:ByteArray):Option Value:=
 match c with
 | .add=>if a.size+b.size<=9223372036854775807 then some (.string (a++b))else none
 | .eql=>some (.bool (a.toList==b.toList))
 | .neq=>some (.bool (!(a.toList==b.toList)))
 | .lss=>some (.bool (Op.bytesLess a.toList b.toList))
 | .leq=>some (.bool (Op.bytesLess a.toList b.toList||a.toList==b.toList))
 | .gtr=>some (.bool (!(Op.bytesLess a.toList b.toList||a.toList==b.toList)))
 | .geq=>some (.bool (!(Op.bytesLess a.toList b.toList)))
 | _=>none
def br (a:BinOp):Value->Value->Option Value
 | .int b c,.int h d=>if ft a then o0 a b c d else if b=h then hN a b c d else none
 | .string k,.string o=>qq a k o
 | _,_=>none
def o1 (b:UnOp):Value->Option Value
 | .bool d=>match b with| .not=>some (.bool !d)| _=>none
 | .int a c=>match b with
  | .neg=>some (.int a (a.wrap (0 - c)))
  | .xor=>some (.int a (a.wrap (BitVec.ofInt a.bits (if a.signed then -1 else a.max)^^^BitVec.ofInt a.bits c).toNat))
  | _=>none
 | _=>none
noncomputable def peq (a b:R):Bool:= @decide (a=b) (Classical.propDecidable _)
def qs (a b:R):peq a b=true↔a=b:=by simp[peq]
def I1 (a:R):peq a a=true:=by simp[peq]
inductive cb where
 |int (k:IntKind)
 |bool
 |str
 deriving DecidableEq
def cb.fit:cb->Value->Prop
 | .int a,.int b _=>a=b
 | .bool,.bool _=>True
 | .str,.string _=>True
 | _,_=>False
def cb.tT:cb->R->Prop
 | .int a,.v (.int b _)=>a=b
 | .bool,.v (.bool _)=>True
 | .str,.v (.string _)=>True
 | _,_=>False
def dk:List (Nat×cb)->List R->Prop
 | [],cs=>cs= []
 |(a,b)::c,cs=>a<=cs.length/\(∀d∈cs.take a,b.tT d)/\dk c (cs.drop a)
noncomputable def dH:List (R×R×Nat)->R->Nat->Option (Nat×R)
 | [],_,_=>none
 |a::us,b,c=>if peq b a.1 then some (c,a.2.1)else dH us b (c+1)
noncomputable def kZ (a:List (R×R×Nat)) (c v:R) (b:Nat):List (R×R×Nat)×Nat:=
 match dH a c 0 with
 |some (h,_)=>(a.modify h λd=>(d.1,v,d.2.2),b)
 |none=>(a++ [(c,v,b)],b+1)
def I2 (a:List (R×R×Nat)) (b:Int):Option Nat:=a.findIdx? λc=>(c.2.2:Int)==b
def rS (b:List (Nat×cb)) (c:List (R×R×Nat)):Prop:= ∀d∈c,∃a,d.1= .agg a/\dk b a
inductive cc where
 |eY (x:Operand)
 |pick (c a b:Operand)
 |alloc (T:TypeId) (zero:List R)
 |box (T:TypeId) (x:Operand)
 |la (T:TypeId) (x:Operand)
 |load (agg:Bool) (n:Nat) (x:Operand)
 |store (n:Nat) (x y:Operand)
 |qt (x:Operand)
 |lb (off:Nat) (x:Operand)
 |qu (k len:Nat) (x i:Operand)
 |dN (k:Nat) (x i:Operand)
 |pa (agg:Bool) (k len:Nat) (x i:Operand)
 |lV (x i:Operand)
 |lW (zero:List R) (parts:List (Nat×Nat×Operand))
 |kh (k:Nat) (xs:List Operand)
 |pb (k:Nat) (x:Operand) (aT aS:Option Operand)
 |ki (k n:Nat) (x:Operand) (aT aS:Option Operand) (ro:Bool)
 |kj (k n:Nat) (x:Operand) (aT aS:Option Operand)
 |len (x:Operand)
 |qv (x:Operand)
 |pc (x:Operand)
 |pd (agg:Bool) (off n:Nat) (x:Operand)
 |bin (op:BinOp) (x y:Operand)
 |eqv (neg:Bool) (bF:List (Nat×cb)) (x y:Operand)
 |qw (neg:Bool) (x y:Operand)
 |un (op:UnOp) (x:Operand)
 |iY (k:IntKind) (x:Operand)
 |app (k bytes:Nat) (x y:Operand)
 |fW (fn:FuncId) (args:List Operand)
 |ext (x:Operand) (i:Nat)
 |lX (d:Bool) (k:IntKind) (x y:Operand)
 |qx (x:Operand)
 |kk (k bytes:Nat) (z:List R) (x y:Operand)
 |mP (k:Nat) (x y:Operand)
 |mQ (neg:Bool) (x:Operand)
 |kl (k:Nat) (xs:List Operand)
 |lY (k bytes:Nat) (x y:Operand)
 |pe (x:Operand)
 |bG (fn:FuncId) (first cap:List Operand)
 |iZ (x:Operand) (args:List Operand)
 |qy (t:TypeId) (x:Operand)
 |mR (x:Operand)
 |km (x:Operand)
 |mS (x:Operand)
 |kn
 |ko (ok:Bool) (rs:List (Nat×cb)) (z:R) (x k:Operand)
 |lf (rs:List (Nat×cb)) (x k v:Operand)
 |mT (x:Operand)
 |lZ (k:Nat) (x:Operand) (aT aS d:Option Operand)
 |mU (k:Nat) (z:List R) (x:Operand)
 |mV (k:Nat) (x y:Operand)
 |mW (k bytes:Nat) (z:List R) (x y:Operand)
 |mX (x y:Operand)
def fu (a:Program) (b:FuncId):Bool:=
 match a.funcs[b]? with
 |some fn=>fn.body.isSome&&fn.name != "runtime.NumGoroutine"
 |none=>false
structure Ctx where
 p:Program
 k:R->U->Prop
@[reducible] def Ctx.of (a:Program):Ctx:=⟨a,λ_ _=>False⟩
def kp (a:Fr) (b:List R):List (Nat×Nat×Operand)->(List R->Prop)->Prop
 | [],c=>c b
 |(off,cf,d)::h,c=>(al a d).cells.length=cf/\off+cf<=b.length/\kp a (putAt b off (al a d).cells) h c
def ak (a:UInt8):R:= .v (.int .u8 a.toNat)
def byteOf:R->Option UInt8
 | .v (.int .u8 a)=>if 0<=a/\a<256 then some (UInt8.ofNat a.toNat)else none
 | _=>none
def bytesOf:List R->Option (List UInt8)
 | []=>some []
 |a::b=>match byteOf a,bytesOf b with
  |some c,some aV=>some (c::aV)
  | _,_=>none
def I3 (a:UInt8):byteOf (ak a)=some a:=by have c:=a.toNat_lt;have b:(0)<=(a.toNat:Int)/\(a.toNat:Int)<256:=aaU;simp[byteOf,ak,b]
def rT: ∀a:List UInt8,bytesOf (a.map ak)=some a
 | []=>rfl
 |b::a=>by simp[bytesOf,I3,rT a]
def cX (b:Fr) (a:Option Operand) (c:Nat):Option Int:=
 match a with
 |none=>some c
 |some a=>match al b a with
  | .v (.int _ d)=>some d
  | _=>none
def wj (a:Own) (b c:Option Operand):Own:=
 match b,c with
 |none,none=>a
 | _,_=> .any
def qz (k:Bool) (c a d h b:Nat):R:=if k=true then .bE c (a*b) (d - a) (h - a) b else .ao c d h b
def bV (k:U) (a:Nat) (o:R):Option (Nat×List R):=
 match o with
 | .J c _=>if c.all (λp=>decide (p.cells.length=a))=true then some (c.length,flat c)else none
 | .ao d b _ h=>match k.read d with
  |some cs=>if h=a/\b*a<=cs.length then some (b,cs.take (b*a))else none
  |none=>none
 | .bE d off b _ h=>match k.read d with
  |some cs=>if h=a/\off+b*a<=cs.length then some (b,(cs.drop off).take (b*a))else none
  |none=>none
 | _=>none
def mY (d:U) (b:Nat) (a:R):Option (Nat×List R):=
 match a with
 | .v (.string c)=>if b=1 then some (c.size,c.data.toList.map ak)else none
 |a=>bV d b a
def wk {a:Nat×List R} (b:bV f e n=some a):mY f e n=some a:=by
 unfold mY;split
 .trivial
 .exact b
def wm (a:U) (b:Nat):Bool:=
 match a b with
 |some (.cells _)=>true
 |some (.p5 _ _)=>true
 | _=>false
def rU:R->Option R
 | .ao _ _ cap _=>some (.v (.int .i64 cap))
 | .J [] .nil=>some (.v (.int .i64 0))
 | _=>none
def rV (c:Fr) (h:Nat) (y:R) (k o p:Option Operand):Option R:=
 match y with
 | .ao r len cap x=>match cX c k 0,cX c o len,cX c p cap with
  |some a,some d,some b=>if x=h/\0<=a/\a<=d/\d<=b/\b<=cap then
    some (if k.isSome=true then(if a<b then .bE r (a.toNat*h) (d.toNat - a.toNat) (b.toNat - a.toNat) h else .J [] .zero)else .ao r d.toNat b.toNat h)
   else none
  | _,_,_=>none
 | .bE r off len cap x=>match cX c k 0,cX c o len,cX c p cap with
  |some a,some d,some b=>if x=h/\0<=a/\a<=d/\d<=b/\b<=cap then
    some (if a<b then .bE r (off+a.toNat*h) (d.toNat - a.toNat) (b.toNat - a.toNat) h else .J [] .zero)
   else none
  | _,_,_=>none
 | .J [] .nil=>match cX c k 0,cX c o 0,cX c p 0 with
  |some a,some d,some b=>if a=0/\d=0/\b=0 then some (.J [] .nil)else none
  | _,_,_=>none
 | .J [] .zero=>match cX c k 0,cX c o 0,cX c p 0 with
  |some a,some d,some b=>if a=0/\d=0/\b=0 then some (.J [] .zero)else none
  | _,_,_=>none
 | _=>none
def lg (b:Nat) (h:List R) (k:R) (a:U):Option U:=
 match k with
 | .bE c off d _ o=>match a c with
  |some (.cells cs)=>if o=b/\off+d*b<=cs.length then some (a.set c (.cells (putAt cs off (List.replicate d h).flatten)))else none
  | _=>none
 | .J [] _=>some a
 | _=>none
def ma (a:Nat) (p r:R) (c:U):Option (R×U):=
 match bV c a r with
 |some (k,o)=>match p with
  | .bE d off b _ h=>match c d with
   |some (.cells cs)=>if h=a/\off+b*a<=cs.length then some (.v (.int .i64 (min k b:Nat)),c.set d (.cells (putAt cs off (o.take (b*a)))))else none
   | _=>none
  | .ao d b _ h=>match c d with
   |some (.cells cs)=>if h=a/\b*a<=cs.length then some (.v (.int .i64 (min k b:Nat)),c.set d (.cells (putAt cs 0 (o.take (b*a)))))else none
   | _=>none
  | .J [] _=>some (.v (.int .i64 0),c)
  | _=>none
 |none=>none
def cL:R->Option Nat
 | .ao a _ _ _=>some a
 | .bE a _ _ _ _=>some a
 | _=>none
def kq (a:U) (b:Nat):Bool:=
 match a b with
 |some (.cells (_:: _))=>true
 | _=>false
def lh (d h:R) (a:U):Option R:=
 match cL d,cL h with
 |some b,some c=>if b≠c/\kq a b=true/\kq a c=true then some (.v (.bool false))else none
 | _,_=>none
def G (i:Ctx) (j:cc) (d:Fr) (a:U) (k:R->U->Prop):Prop:=
  match j with
  | .eY h=>k (al d h) a
  | .pick m y z=>match al d m with
    | .v (.bool P)=>k (if P then al d y else al d z) a
    | _=>False
  | .alloc _ zero=> ∀o,a o=none->k (.ptr o 0) (a.set o (.cells zero))
  | .box _ h=>0<(al d h).cells.length/\ ∀o,a o=none->k (.ptr o 0) (a.set o (.cells (al d h).cells))
  | .la _ h=>0<(al d h).cells.length/\ ∀o,a o=none->k (.ptr o 0) (a.set o (.ro (al d h).cells))
  | .load agg b h=>match al d h with
    | .ptr o off=>match a.read o with
      |some p=>off+b<=p.length/\k (aL agg b (p.drop off)) a
      |none=>False
    | .bU p=>b<=p.length/\k (aL agg b p) a
    | _=>False
  | .store b h C=>match al d h with
    | .ptr o off=>match a o with
      |some (.cells p)=>(al d C).cells.length=b/\off+b<=p.length/\k (.aJ []) (a.set o (.cells (putAt p off (al d C).cells)))
      | _=>False
    | _=>False
  | .qt h=>match al d h with
    | .ptr o off=>k (.ptr o off) a
    | .bU p=>k (.bU p) a
    | .bG b cK p=>k (.bG b cK p) a
    | _=>False
  | .lb off h=>match al d h with
    | .ptr o S=>k (.ptr o (S+off)) a
    | .bU p=>k (.bU (p.drop off)) a
    | _=>False
  | .qu c len h e=>match al d h,al d e with
    | .ptr o S,.v (.int _ b)=>0<=b/\b<len/\k (.ptr o (S+b.toNat*c)) a
    | .bU p,.v (.int _ b)=>0<=b/\b<len/\k (.bU (p.drop (b.toNat*c))) a
    | _,_=>False
  | .dN c h e=>match al d h,al d e with
    | .J xs _,.v (.int _ b)=>0<=b/\match xs[b.toNat]? with
      |some V=>V.cells.length=c/\k (.bU V.cells) a
      |none=>False
    | .bE o off len _ L,.v (.int _ b)=>L=c/\0<=b/\b<len/\k (.ptr o (off+b.toNat*c)) a
    | .ao o len _ L,.v (.int _ b)=>L=c/\0<=b/\b<len/\k (.ptr o (b.toNat*c)) a
    | _,_=>False
  | .pa agg c len h e=>match al d h,al d e with
    | .agg p,.v (.int _ b)=>0<=b/\b<len/\b.toNat*c+c<=p.length/\k (aL agg c (p.drop (b.toNat*c))) a
    | _,_=>False
  | .lV h e=>match al d h,al d e with
    | .v (.string P),.v (.int _ b)=>0<=b/\match P.data[b.toNat]? with
      |some z=>k (.v (.int .u8 z.toNat)) a
      |none=>False
    | _,_=>False
  | .lW zero parts=>kp d zero parts λp=>k (.agg p) a
  | .kh c xs=>(∀V∈xs.map (al d),V.cells.length=c)/\
      (if xs.length=0 then k (.J [] .zero) a else∀x,a x=none->k (.J (xs.map (al d)) (.buf x xs.length)) (a.set x (.buf c xs.length xs.length)))
  | .pb c h aT aS=>match al d h with
    | .J xs S=>match cX d aT 0,cX d aS xs.length with
      |some y,some z=>0<=y/\y<=z/\z<=xs.length/\(∀V∈xs,V.cells.length=c)/\k (.J ((xs.take z.toNat).drop y.toNat) (wj S aT aS)) a
      | _,_=>False
    | .bE o off len D L=>match cX d aT 0,cX d aS len with
      |some y,some z=>L=c/\0<=y/\y<=z/\z<=len/\y<len/\k (.bE o (off+y.toNat*c) (z.toNat - y.toNat) (D - y.toNat) c) a
      | _,_=>False
    | .ao o len D L=>match cX d aT 0,cX d aS len with
      |some y,some z=>L=c/\0<=y/\y<=z/\z<=len/\(aT.isSome=true->y<len)/\k (qz aT.isSome o y.toNat z.toNat D c) a
      | _,_=>False
    | _=>False
  | .ki c b h aT aS ro=>match al d h with
    | .ptr o off=>match cX d aT 0,cX d aS b with
      |some y,some z=>0<=y/\y<=z/\z<=b/\match a.read o with
        |some p=>off+b*c<=p.length/\
          (if ro then k (.J (er c (z.toNat - y.toNat) (p.drop (off+y.toNat*c))) .any) (a.set o (.ro p))else y<b/\k (.bE o (off+y.toNat*c) (z.toNat - y.toNat) (b - y.toNat) c) a)
        |none=>False
      | _,_=>False
    | _=>False
  | .kj c b h aT aS=>match al d h with
    | .ptr o off=>match cX d aT 0,cX d aS b with
      |some y,some z=>0<=y/\y<=z/\z<=b/\match a o with
        |some (.ro p)=>off+b*c<=p.length/\k (.J (er c (z.toNat - y.toNat) (p.drop (off+y.toNat*c))) .any) a
        | _=>False
      | _,_=>False
    | _=>False
  | .len h=>match al d h with
    | .J xs _=>k (.v (.int .i64 xs.length)) a
    | .bE _ _ b _ _=>k (.v (.int .i64 b)) a
    | .ao _ b _ _=>k (.v (.int .i64 b)) a
    | _=>False
  | .qv h=>match al d h with
    | .v (.string P)=>k (.v (.int .i64 P.size)) a
    | _=>False
  | .pc h=>match al d h with
    | .eX o=>match a o with
      |some (.mp us _)=>k (.v (.int .i64 us.length)) a
      | _=>False
    | _=>False
  | .pd agg off b h=>match al d h with
    | .agg p=>off+b<=p.length/\k (aL agg b (p.drop off)) a
    | _=>False
  | .bin j h C=>match al d h,al d C with
    | .v y,.v z=>match br j y z with
      |some W=>k (.v W) a
      |none=>False
    | _,_=>False
  | .eqv neg bF h C=>match al d h,al d C with
    | .agg p,.agg cK=>dk bF p/\dk bF cK/\k (.v (.bool (xor neg (peq (.agg p) (.agg cK))))) a
    | _,_=>False
  | .qw neg h C=>match al d h,al d C with
    | .ptr _ _,.v (.pointer none)=>k (.v (.bool neg)) a
    | .bU _,.v (.pointer none)=>k (.v (.bool neg)) a
    | .v (.pointer none),.v (.pointer none)=>k (.v (.bool (!neg))) a
    | .ptr o S,.ptr s t=>(o=s/\S=t)/\k (.v (.bool (!neg))) a
    | _,_=>False
  | .un j h=>match al d h with
    | .v y=>match o1 j y with
      |some W=>k (.v W) a
      |none=>False
    | _=>False
  | .iY c h=>match al d h with
    | .v (.int _ b)=>k (.v (.int c (c.wrap b))) a
    | _=>False
  | .app c bytes h C=>match al d h,al d C with
    | .J xs S,.J E _=>(∀V∈xs,V.cells.length=c)/\(∀V∈E,V.cells.length=c)/\(xs.length+E.length)*bytes<=140737488355328/\xs.length+E.length<=9223372036854775807/\
      match S with
      | .buf x m=>a x=some (.buf c xs.length m)/\ ∀g l,(g=x\/a g=none)->k (.J (xs++E) (.buf g l)) ((a.del x).set g (.buf c (xs.length+E.length) l))
      | .any=>False
      | _=>xs= []/\(if E= []then k (.J [] S) a else∀g l,a g=none->k (.J E (.buf g l)) (a.set g (.buf c E.length l)))
    | _,_=>False
  | .fW fn args=>hM i.p fn (args.map (al d)) a k (up i.k)
  | .ext h e=>match al d h with
    | .aJ u=>match u[e]? with
      |some W=>k W a
      |none=>False
    | _=>False
  | .lX n _ h C=>match al d h,al d C with
    | .v (.int c y),.v (.int L z)=>c=L/\k (.v (.int c (if n then max y z else min y z))) a
    | _,_=>False
  | .qx h=>match al d h with
    | .J xs _=>match bytesOf xs with
      |some o=>k (.v (.string ⟨o.toArray⟩)) a
      |none=>False
    | _=>False
  | .kk c bytes f h C=>match al d h,al d C with
    | .v (.int _ b),.v (.int _ r)=>b=r/\0<=b/\b<=9223372036854775807/\b*bytes<=281474976710656/\ ∀x,a x=none->k (.ao x b.toNat b.toNat c) (a.set x (.cells (List.replicate b.toNat f).flatten))
    | _,_=>False
  | .mP c h C=>match al d h,al d C with
    | .bE o off b _ L,.J E _=>L=c/\(∀V∈E,V.cells.length=c)/\match a o with
      |some (.cells p)=>off+b*c<=p.length/\k (.v (.int .i64 (min E.length b))) (a.set o (.cells (putAt p off (flat (E.take b)))))
      | _=>False
    | .ao o b _ L,.J E _=>L=c/\(∀V∈E,V.cells.length=c)/\match a o with
      |some (.cells p)=>b*c<=p.length/\k (.v (.int .i64 (min E.length b))) (a.set o (.cells (putAt p 0 (flat (E.take b)))))
      | _=>False
    | _,_=>False
  | .kl c xs=>(∀V∈xs.map (al d),V.cells.length=c)/\
      (if xs.length=0 then k (.J [] .zero) a else∀x,a x=none->k (.ao x xs.length xs.length c) (a.set x (.cells (flat (xs.map (al d))))))
  | .lY c bytes h C=>match mY a c (al d C)with
    |some (r,E)=>match al d h with
      | .J xs S=>xs= []/\(S= .nil\/S= .zero)/\r*bytes<=140737488355328/\r<=9223372036854775807/\
        (if r=0 then k (.J [] S) a else∀x D T,a x=none->r<=D->D<=maxLen->T.length=(D - r)*c->k (.ao x r D c) (a.set x (.cells (E++T))))
      | .ao o b D L=>match a o with
        |some (.cells p)=>L=c/\p.length=D*c/\(b+r)*bytes<=140737488355328/\b+r<=9223372036854775807/\
          (if b+r<=D then k (.ao o (b+r) D c) (a.set o (.cells (putAt p (b*c) E)))
           else∀x F T,a x=none->b+r<=F->F<=maxLen->T.length=(F -(b+r))*c->k (.ao x (b+r) F c) (a.set x (.cells (p.take (b*c)++E++T))))
        |some (.eP p)=>L=c/\p.length=D*c/\(b+r)*bytes<=140737488355328/\b+r<=9223372036854775807/\
          (if b+r<=D then k (.ao o (b+r) D c) (a.set o (.eP (putAt p (b*c) E)))
           else∀x F T,a x=none->b+r<=F->F<=maxLen->T.length=(F -(b+r))*c->k (.ao x (b+r) F c) (a.set x (.cells (p.take (b*c)++E++T))))
        | _=>False
      | .bE o off b D L=>match a o with
        |some (.cells p)=>L=c/\off+D*c<=p.length/\(b+r)*bytes<=140737488355328/\b+r<=9223372036854775807/\
          (if b+r<=D then k (.bE o off (b+r) D c) (a.set o (.cells (putAt p (off+b*c) E)))
           else∀x F T,a x=none->b+r<=F->F<=maxLen->T.length=(F -(b+r))*c->k (.ao x (b+r) F c) (a.set x (.cells ((p.drop off).take (b*c)++E++T))))
        | _=>False
      | _=>False
    |none=>False
  | .pe h=>match al d h with
    | .v (.string P)=>k (.J (P.data.toList.map ak) .any) a
    | _=>False
  | .bG fn first D=>k (.bG fn (first.map (al d)) (D.map (al d))) a
  | .iZ h args=>match al d h with
    | .bG fn cK p=>fu i.p fn=true/\hM i.p fn (cK++args.map (al d)++p) a k (up i.k)
    | _=>False
  | .qy P h=>k (.iface P (al d h)) a
  | .mR h=>match al d h with
    | .iface P C=>up i.k (.iface P C) a
    | _=>False
  | .km h=>match al d h with
    | .v (.string P)=> ∀o,a o=none->k (.ptr o 0) (a.set o (.it P 0))
    | _=>False
  | .mS h=>match al d h with
    | .ptr o off=>off=0/\match a o with
      |some (.it P pos)=>if pos<P.size then k (.aJ [.v (.bool true),.v (.int .i64 pos),.v (.int .i32 (Utf8.decode P pos).1)]) (a.set o (.it P (pos+(Utf8.decode P pos).2)))else k (.aJ [.v (.bool false)]) a
      | _=>False
    | _=>False
  | .kn=> ∀o,a o=none->k (.eX o) (a.set o (.mp [] 0))
  | .ko ok rs f h c=>match al d h,al d c with
    | .eX o,.agg p=>match a o with
      |some (.mp us _)=>dk rs p/\rS rs us/\(match dH us (.agg p) 0 with
        |some (_,v)=>k (if ok then .aJ [v,.v (.bool true)]else v) a
        |none=>k (if ok then .aJ [f,.v (.bool false)]else f) a)
      | _=>False
    | _,_=>False
  | .lf rs h c v=>match al d h,al d c with
    | .eX o,.agg p=>match a o with
      |some (.mp us clock)=>dk rs p/\rS rs us/\k (.aJ []) (a.set o (.mp (kZ us (.agg p) (al d v) clock).1 (kZ us (.agg p) (al d v) clock).2))
      | _=>False
    | _,_=>False
  | .mQ neg h=>match al d h with
    | .J xs S=>match S with
      | .nil=>k (.v (.bool (!neg))) a
      | .buf _ _=>k (.v (.bool neg)) a
      | _=>(xs= []->k (.v (.bool (!neg))) a)/\k (.v (.bool neg)) a
    | .ao _ _ _ _=>k (.v (.bool neg)) a
    | _=>False
  | .mT h=>match rU (al d h)with
    |some W=>k W a
    |none=>False
  | .lZ c h aT aS n=>match rV d c (al d h) aT aS n with
    |some W=>k W a
    |none=>False
  | .mU c f h=>match lg c f (al d h) a with
    |some q=>k (.aJ []) q
    |none=>False
  | .mV c h C=>match ma c (al d h) (al d C) a with
    |some (W,q)=>k W q
    |none=>False
  | .mX h C=>match lh (al d h) (al d C) a with
    |some W=>k W a
    |none=>False
  | .mW c bytes f h C=>match al d h,al d C with
    | .ao o b D L,.v (.int .i64 r)=>match a.read o with
      |some p=>L=c/\p.length=D*c/\0<=r/\D<b+r.toNat/\(b+r.toNat)*bytes<=140737488355328/\b+r.toNat<=9223372036854775807/\
        ∀x F T,a x=none->b+r.toNat<=F->F<=maxLen->T.length=(F -(b+r.toNat))*c->k (.ao x (b+r.toNat) F c) (a.set x (.cells (p.take (b*c)++(List.replicate r.toNat f).flatten++T)))
      |none=>False
    | .J xs S,.v (.int .i64 r)=>xs= []/\S= .nil/\0<r/\r.toNat*bytes<=140737488355328/\r<=9223372036854775807/\
        ∀x F T,a x=none->r.toNat<=F->F<=maxLen->T.length=(F - r.toNat)*c->k (.ao x r.toNat F c) (a.set x (.cells ((List.replicate r.toNat f).flatten++T)))
    | _,_=>False
def wo {c:Fr}{d h:List R->Prop} (k: ∀o,d o->h o): ∀(p:List (Nat×Nat×Operand)) (b:List R),kp c b p d->kp c b p h
 | [],b,a=>k _ a
 |(_,_,_)::r,_,a=>⟨a.1,a.2.1,wo k r _ a.2.2⟩
variable{e2:cc}{K:Ctx}{j:Fr}
theorem AP (c: ∀k o,t k o->Z k o) (a:G K e2 j f t):G K e2 j f Z:=by
 cases e2<;>simp only[G]at a|-
 case fW E p=>exact a.mono c (λ_ _ a=>a)
 case mT b=>grind
 case lZ=>grind
 case mU=>grind
 case mV=>grind
 case mX=>grind
 case mW d bytes r b h=>
  grind
 case iZ b p=>split at a;(exact⟨a.1,a.2.mono c (λ_ _ a=>a)⟩);trivial
 case mR=>exact a
 case km=>grind
 case kn=>simp_all
 case ko F x r b d=>
  split at a
  case h_2=>omega
  grind
 case lf x b d v=>
  grind
 case mS b=>
  split at a
  case h_2=>omega
  grind
 case pick=>grind
 case lW L P=>exact wo (λ_ a=>c _ _ a) _ _ a
 case alloc=>simp_all
 case box=>simp_all
 case la=>simp_all
 case kk=>grind
 case lX=>grind
 case kj d y b z C=>
  (repeat' split at a)<;>first
   |exact a.elim
   |simp_all
   |exact a.2.2.2.elim
 case mP d b h=>
  grind
 case mQ S b=>
  grind
 case kl=>grind
 case lY d bytes b h=>
  split at a
  case h_2=>omega
  split at a;grind;grind;grind
  .omega
 case kh=>grind
 case app d bytes b h=>
  grind
 case ki d y b z C T=>
  (repeat' split at a)<;>first
   |exact a.elim
   |simp_all
   |simp_all
   |exact a.2.2.2.elim
 case dN d b D=>
  grind
 case lV b D=>
  grind
 all_goals
  (repeat' split at a)<;>first
   |exact a.elim
   |exact c _ _ a
   |exact⟨a.1,c _ _ a.2⟩
   |exact⟨a.1,a.2.1,c _ _ a.2.2⟩
   |exact⟨a.1,a.2.1,a.2.2.1,c _ _ a.2.2.2⟩
   |exact⟨a.1,a.2.1,a.2.2.1,a.2.2.2.1,c _ _ a.2.2.2.2⟩
   |exact⟨a.1,a.2.1,a.2.2.1,a.2.2.2.1,a.2.2.2.2.1,c _ _ a.2.2.2.2.2⟩
def fF:List cb->List Value->Prop
 | [],[]=>True
 |a::bF,b::xs=>a.fit b/\fF bF xs
 | _,_=>False
def qA (b:Program) (c:TypeId->Option (List cb)):List Field->Nat->Option (List cb)
 | [],_=>some []
 |a::h,off=>
  if a.offset=off/\a.name≠ "_" then
   match c a.type,qA b c h (off+b.cellsOf a.type)with
   |some d,some k=>if b.cellsOf a.type=d.length/\(b.info? a.type).isSome then some (d++k)else none
   | _,_=>none
  else none
def flatK (a:Program):Nat->TypeId->Option (List cb)
 |0,_=>none
 |c+1,d=>
  match a.underlying d with
  |some (.int k)=>some [.int k]
  |some .bool=>some [.bool]
  |some .string=>some [.str]
  |some (.array o b)=>match flatK a c b with
   |some h=>if a.cellsOf b=h.length/\(a.info? b).isSome then some (List.replicate o h).flatten else none
   |none=>none
  |some (.struct p)=>if a.stoodInHeld d then none else qA a (flatK a c) p.toList 0
  | _=>none
theorem o2: ∀ {a:List cb}{b:List Value},fF a b->b.length=a.length
 | [],[],_=>rfl
 | _:: _,_:: _,c=>by simp[o2 c.2]
def pf: ∀ {a d:List cb}{b:List Value},fF (a++d) b->fF a (b.take a.length)/\fF d (b.drop a.length)
 | [],_,_,c=>by simp[fF];trivial
 | _:: _,_,[],c=>by trivial
 | _:: _,_,_:: _,c=>by
  obtain⟨k,h⟩:=c;obtain⟨o,p⟩:=pf h;trivial
variable{e1:IntKind}{b2:TypeId}
section
def qB (d:Program) (y:Nat) (h:TypeId) (a:List cb):Prop:=
 ∀(z:Nat) (b:World) (k o:Array Value) (c:Nat),fF a ((k.toList.drop c).take a.length)->fF a ((o.toList.drop c).take a.length)->
  ∃p r x,(part h k c).run d b= .ok p b/\(part h o c).run d b= .ok r b/\(Op.equalIn (z+y) h p r).run d b= .ok x b/\
   (x=true↔(k.toList.drop c).take a.length=(o.toList.drop c).take a.length)
def wq {a:TypeDesc} (c:m.underlying b2=some a) (b:World):(isAgg b2).run m b= .ok a.isRow b:=by unfold isAgg;rw[Sem.run_bind,run_underlying c b];cases a<;>rfl
def mb {b:TypeDesc} (k:m.underlying b2=some b) (o:b.isRow=true) {c:TypeInfo} (p:m.info? b2=some c) (d:Array Value) (a:Nat) (h:World):
  (part b2 d a).run m h= .ok (.agg (d.extract a (a+c.size))) h:=by
 simp[part,wq k,o,sizeOf,typeInfo,p]
def o3 {a:TypeDesc} (k:m.underlying b2=some a) (o:a.isRow=false) (b:Array Value) (c:Nat) (d:Value) (p:b[c]? =some d) (h:World):
  (part b2 b c).run m h= .ok d h:=by
 simp[part,wq k,o,p]
def one_cell {b:Array Value}{h:cb} (c:fF [h] ((b.toList.drop e).take 1)): ∃a,b[e]? =some a/\h.fit a/\(b.toList.drop e).take 1= [a]:=by
 cases d:(b.toList.drop e)with
 |nil=>simp[d,fF]at c
 |cons a k=>
  refine⟨a,?_,?_,aaV⟩
  .have:(b.toList.drop e)[0]? =some a:=by simp[d]
   simpa using this
  .rw[d]at c;exact c.1
theorem I4 (a b:ByteArray):a.toList=b.toList↔a=b:=by
 constructor
 .intro c;rw[ByteArray.toList_eq,ByteArray.toList_eq]at c;cases a;simp_all
 .rintro rfl;rfl
def I5 (a:m.underlying b2=some (.int e1)):qB m (e+1) b2 [.int e1]:=by
 intro h b D E F k o;obtain⟨p,r,c,x⟩:=one_cell k;obtain⟨y,z,d,C⟩:=one_cell o;rw[a8c,x,C,show h+(e+1)=(h+e)+1 by omega];cases p<;>first|exact c.elim|skip
 cases y<;>first|exact d.elim|skip
 simp only[cb.fit]at c d;subst c;subst d;exact⟨_,_,_,o3 a rfl _ _ _ r b,o3 a rfl _ _ _ z b,run_equalIn_int b _ b2 _ _ _ _ a,aaV⟩
def I6 (a:m.underlying b2=some .bool):qB m (e+1) b2 [.bool]:=by
 intro c b D E F d h;obtain⟨k,o,p,r⟩:=one_cell d;obtain⟨x,y,z,C⟩:=one_cell h;rw[a8c,r,C,show c+(e+1)=(c+e)+1 by omega];cases k<;>first|exact p.elim|skip
 cases x<;>first|exact z.elim|skip
 exact⟨_,_,_,o3 a rfl _ _ _ o b,o3 a rfl _ _ _ y b,run_equalIn_bool' b _ b2 _ _ a,aaV⟩
def I7 (a:m.underlying b2=some .string):qB m (e+1) b2 [.str]:=by
 intro c b D E F d h;obtain⟨k,o,p,r⟩:=one_cell d;obtain⟨x,y,z,C⟩:=one_cell h;rw[a8c,r,C,show c+(e+1)=(c+e)+1 by omega];cases k<;>first|exact p.elim|skip
 cases x<;>first|exact z.elim|skip
 exact⟨_,_,_,o3 a rfl _ _ _ o b,o3 a rfl _ _ _ y b,run_equalIn_string b _ b2 _ _ a,by rw[beq_iff_eq,I4];simp⟩
theorem AQ {y:Nat}{o:TypeId}{a:List cb} (z:qB m y o a) (C:m.cellsOf o=a.length) (x:Nat) (p:World) (d h:Array Value): ∀(b c:Nat),
  fF (List.replicate b a).flatten ((d.toList.drop (c*a.length)).take (List.replicate b a).flatten.length)->fF (List.replicate b a).flatten ((h.toList.drop (c*a.length)).take (List.replicate b a).flatten.length)->
  ∃k,(Op.eqItems (x+y) o (m.cellsOf o) d h (List.range' c b)).run m p= .ok k p/\
   (k=true↔(d.toList.drop (c*a.length)).take (List.replicate b a).flatten.length=(h.toList.drop (c*a.length)).take (List.replicate b a).flatten.length)
 |0,c,_,_=>⟨true,by rfl,aaV⟩
 |b+1,c,D,E=>by
  simp only[a8O,a8p]at D E|-;obtain⟨F,G⟩:=pf D;obtain⟨L,P⟩:=pf E;have W:min a.length (a++(List.replicate b a).flatten).length=a.length:=aaV;have e:(a++(List.replicate b a).flatten).length - a.length=(List.replicate b a).flatten.length:=aaV;rw[a7N,W]at F L;rw[a7T,a7p,e,show c*a.length+a.length=(c+1)*a.length by rw[a7I,a9v]]at G P;obtain⟨l,n,k,S,T,f,g⟩:=z x p d h (c*a.length) F L;obtain⟨i,q,j⟩:=AQ z C x p d h b (c+1) G P;have V: ∀r:List Value,r.take (a++(List.replicate b a).flatten).length=r.take a.length++(r.drop a.length).take (List.replicate b a).flatten.length:=λr=>by
   grind
  rw[List.range'_succ];rw[<-C]at S T;simp only[Op.eqItems,Sem.run_bind,S,T,f,Result.andThen_ok];have s:((d.toList.drop (c*a.length)).take (a++(List.replicate b a).flatten).length=(h.toList.drop (c*a.length)).take (a++(List.replicate b a).flatten).length)↔(k=true/\i=true):=by rw[V,V,a7p,a7p,show c*a.length+a.length=(c+1)*a.length by grind,g,j];grind[List.append_inj,o2]
  cases k;simp_all;simp_all
theorem AR {C:Nat}{D:TypeId->Option (List cb)} (E: ∀o a,D o=some a->m.cellsOf o=a.length->(m.info? o).isSome->qB m C o a) (y:Nat) (p:World) (h k:Array Value): ∀(r:List Field) (b:Nat) (d:List cb),
  qA m D r b=some d->fF d ((h.toList.drop b).take d.length)->fF d ((k.toList.drop b).take d.length)->
  ∃c,(Op.eqFields (y+C) h k r).run m p= .ok c p/\(c=true↔(h.toList.drop b).take d.length=(k.toList.drop b).take d.length)
 | [],b,d,hk,_,_=>by
  simp_all [qA,Op.eqFields]
 |s::r,b,d,hk,e,f=>by
  simp only[qA]at hk;split at hk
  case isFalse=>cases hk
  rename_i F;split at hk
  case h_2=>cases hk
  rename_i a c g i;split at hk
  case isFalse=>cases hk
  rename_i z;obtain rfl:=a6x hk;obtain⟨G,L⟩:=pf e;obtain⟨P,S⟩:=pf f;have j:min a.length (a++c).length=a.length:=aaV;have l:(a++c).length - a.length=c.length:=aaV;rw[a7N,j]at G P;rw[a7T,a7p,l,<-z.1]at L S;obtain⟨t,u,T,V,W,n,v⟩:=E _ _ g z.1 z.2 y p h k b G P;obtain⟨q,w,A⟩:=AR E y p h k r _ _ i L S;have B: ∀x:List Value,x.take (a++c).length=x.take a.length++(x.drop a.length).take c.length:=λx=>by
   grind
  rw[<-F.1]at V W;simp only[Op.eqFields,if_pos F.2,Sem.run_bind,V,W,n,Result.andThen_ok];have H:((h.toList.drop b).take (a++c).length=(k.toList.drop b).take (a++c).length)↔(T=true/\q=true):=by grind[List.drop_drop,List.append_inj,o2]
  cases T;simp_all;simp_all
def tU (b:Array Value) (a c:Nat):(b.extract a (a+c)).toList=(b.toList.drop a).take c:=by simp
theorem tV: ∀(d:Nat) (c:TypeId) (k:List cb),flatK m d c=some k->m.cellsOf c=k.length->(m.info? c).isSome->qB m d c k
 |0,c,k,a,_,_=>by trivial
 |d+1,c,k,a,T,V=>by
  simp only[flatK]at a;cases hu:m.underlying c with
  |none=>simp[hu]at a
  |some desc=>
   simp only[hu]at a;cases desc<;>simp only[]at a<;>first
    |(cases a;done)
    |skip
   case int s=>obtain rfl:=a6x a;exact I5 hu
   case bool=>obtain rfl:=a6x a;exact I6 hu
   case string=>obtain rfl:=a6x a;exact I7 hu
   case array W g=>
    split at a
    case h_2=>cases a
    rename_i E i;split at a
    case isFalse=>cases a
    rename_i F;obtain rfl:=a6x a;have ih:=tV d g E i F.1 F.2;obtain⟨o,p⟩:=a7m.1 V;obtain⟨t,j⟩:=a7m.1 F.2;have G:o.size=(List.replicate W E).flatten.length:=by simpa[Program.cellsOf,p] using T
    intro y h r x b z C;have D:=AQ ih F.1 y h (r.extract b (b+o.size)) (x.extract b (b+o.size)) W 0;simp only[a9Q,a8a,tU,G]at D;rw[a7N,a8L,a7N,a8L]at D;obtain⟨L,e,P⟩:=D z C;refine⟨_,_,L,mb hu rfl p r b h,mb hu rfl p x b h,?_,P⟩;rw[show y+(d+1)=(y+d)+1 by omega,run_equalIn_array h (y+d) _ _ hu j,List.range_eq_range',G];exact e
   case struct f=>
    split at a;trivial;rename_i u;obtain⟨o,p⟩:=a7m.1 V;have G:o.size=k.length:=by simpa[Program.cellsOf,p] using T
    have v:m.fieldsOf c=f:=by simp[Program.fieldsOf,hu]
    intro y h r x b z C;have D:=λr x z C=>
     AR (λc E l n q=>tV d c E l n q) y h r x f.toList 0 k a z C
    have S:=D (r.extract b (b+o.size)) (x.extract b (b+o.size));simp only[a8a,tU,G]at S;rw[a7N,a8L,a7N,a8L]at S;obtain⟨L,e,P⟩:=S z C;refine⟨_,_,L,mb hu rfl p r b h,mb hu rfl p x b h,?_,P⟩;grind[run_equalIn_struct]
end
def jG (b:List (Nat×cb)):List cb:=b.flatMap λa=>List.replicate a.1 a.2
def mZ:List cb->List (Nat×cb)
 | []=> []
 |a::bF=>match mZ bF with
  |(c,b)::d=>if a=b then(c+1,b)::d else(1,a)::(c,b)::d
  | []=> [(1,a)]
theorem tW: ∀a:List cb,jG (mZ a)=a
 | []=>rfl
 |b::a=>by
  have ih:=tW a;grind[mZ,jG]
theorem pg {P:bl}: ∀(C:List (Nat×cb)) (a:List R) (b:List Value),dk C a->b.length=a.length->(∀(c:Nat) (d:Value) (h:R),b[c]? =some d->a[c]? =some h->aX P d h)->
  fF (jG C) b/\a=b.map R.v
 | [],a,b,p,o,_=>by
  simp only[dk]at p;subst p;have:=a6F (by trivial);subst this;trivial
 |(r,x)::C,a,b,p,o,D=>by
  obtain⟨V,W,e⟩:=p;obtain⟨l,m⟩:=pg C (a.drop r) (b.drop r) e (by simp[o]) (λc d h G L=>D (r+c) d h (by simpa using G) (by simpa using L));have f: ∀(y) (a) (b),b.length=a.length->a.length=y->(∀k∈a,x.tT k)->(∀(c:Nat) (d) (h),b[c]? =some d->a[c]? =some h->aX P d h)->
    (∀E F,fF F E->fF (List.replicate y x++F) (b++E))/\a=b.map R.v:=by
   intro y
   induction y with
   |zero=>grind
   |succ y ih=>
    intro a b o hm S D
    match a,b,o,hm with
    |k::a,v::b,o,hm=>
     obtain⟨g,i⟩:=ih a b (by simpa using o) (by simpa using hm) (λk z=>S k (a7X _ z)) (λc d h G L=>D (c+1) d h (by trivial) (by trivial));have z:=S k a8u;have j:=D 0 v k rfl rfl;have T:k= .v v/\x.fit v:=by
      cases k<;>first
       |(cases x<;>exact z.elim)
       |skip
      cases j;refine⟨rfl,?_⟩;cases x<;>cases v<;>first|exact z|exact z.elim
     refine⟨λE F p=>⟨T.2,g E F p⟩,by rw[T.1,i];rfl⟩
  obtain⟨n,q⟩:=f r (a.take r) (b.take r) (by simp[o]) (by simp[V]) W (λc d h G L=>by
   grind)
  grind[jG,List.take_append_drop]
def bW (y:Program) (z:R->U->Prop) (o:Oper) (h:Act) (k:World) (p:bl) (r:U) (C:R->U->Prop):Prop:=
 ∀x:Exit->Act->World->Prop,(∀v a b c d,Step p r k b c d->aX b v a->up z a c->x (.panic [{v,recovered:=false}]) h d)->o.wp y h k (λD d=> ∃v b c a,D=h.put o.dst v/\Step p r k b c d/\aX b v a/\C a c) x
variable{N e5 h6:Own}
section
variable  {o:Oper}{a:Act}   
def bW.value {v:Value}{b:bl} (c:(execOp a.eval o).run m l= .ok (.value v) h9) (d:Step u f l b s h9) (h:aX b v n) (k:Z n s):bW m t o a l u f Z:=by intro p _;unfold Oper.wp;rw[c];exact⟨v,b,s,n,rfl,d,h,k⟩
def bW.same {v:Value} (b:Holds u f l) (c:(execOp a.eval o).run m l= .ok (.value v) l) (d:aX u v n) (h:Z n f):bW m t o a l u f Z:=
 .value c (.refl b) d h
def bW.skip {b:bl} (c:(execOp a.eval o).run m l= .ok .skip h9) (d:Step u f l b s h9) (h:Z (.aJ []) s):bW m t o a l u f Z:=by intro k _;unfold Oper.wp;rw[c];exact⟨undef,b,s,.aJ [],rfl,d,aX.undef _,h⟩
def aX.dV {b:Value} (c:aX u e4 (.v b)):e4=b:=by cases c;rfl
def aX.lj (b:aX u e4 (.ptr e i)):e4= .pointer (some ⟨e,i,none⟩):=by cases b;rfl
theorem aX.aL {k:Array Value}{c:List R} (p:bw u k c) (r: ∀h∈c,h.one=true) (b d:Nat) (x:b+d<=c.length):aX u (.agg (k.extract b (b+d))) (aL true d (c.drop b)):=by have:=p.sub b d x;exact .agg _ _ (λh y=>r h (a7e (a6M y))) this.1 this.2
theorem aX.wu {c:Array Value} (d:bw u c g) (b:Nat) (p:b+1<=g.length):aX u (c.getD b Go.undef) (bD.aL false 1 (g.drop b)):=by
 have h:b<g.length:=aaU;have:=d.2 b g[b] (a6y h);have k:bD.aL false 1 (g.drop b)=g[b]:=by unfold bD.aL;simp_all
 rw[k];exact this
theorem Holds.read {l:Nat}{p:List R} (k:Holds u f h9) (b:f.read l=some p):(∀h∈p,h.one=true)/\ ∃d T z,h9.heap[l]? =some (.cells d T z)/\bw u d p:=by
 unfold U.read at b;split at b
 .rename_i h c;obtain rfl:=a6x b;obtain⟨r,d,T,x,y,_⟩:=k.db l _ c;simp_all
 .rename_i h c;obtain rfl:=a6x b;obtain⟨r,d,T,z,x,y,_⟩:=k.db l _ c;simp_all
 .rename_i T h c;obtain rfl:=a6x b;obtain⟨r,d,x,y,_⟩:=k.db l _ c;simp_all
 .rename_i h c;obtain rfl:=a6x b;obtain⟨r,d,T,x,y,_⟩:=k.db l _ c;simp_all
 .cases b
def wv (b:World) (c:TypeId) (d:TypeDesc) (h:Addr) (k:Value) (p:m.underlying c=some d) (r:d.isRow=false) (x:b.cell? h=some k):(loadVar c h).run m b= .ok k b:=by simp[loadVar,wq p,r,x]
theorem I8 (r:TypeId) (C:Operand) (S:o.op= .load r C) (h:TypeDesc) (y:m.underlying r=some h) (c:Nat) (B:(m.info? r).map (·.size)=some c) (H:h.isRow=false->c=1)
  (M:aQ C=true) (N:bO u a j) (z:Holds u f l) (D:G ⟨m,t⟩ (.load h.isRow c C) j f Z):bW m t o a l u f Z:=by
 have E:=N.al C M;simp only[G]at D;split at D
 .rename_i F b i;rw[i]at E;have I:=E.lj;split at D
  case h_2=>trivial
  rename_i V O;obtain⟨W,k⟩:=D;obtain⟨n,p,T,k2,Q,e⟩:=z.read O;cases d:h.isRow with
  |true=>
   rw[d]at k;have q:l.rangeAt F b ((p.toList.drop b).take c):=by intro L v s;grind[cell_of_row]
   have X:((p.toList.drop b).take c).length=c:=by have:=e.1;simp;omega
   have x:=run_loadAt_mid l F b r ((p.toList.drop b).take c) h q y d (by rw[X];exact B);refine .same z (v:= .agg ((p.toList.drop b).take c).toArray) ?_ ?_ k
   .simp[execOp,S,I,x]
   .have:=aX.aL e n b c W;rw[show((p.toList.drop b).take c).toArray=p.extract b (b+c) by grind];exact this
  |false=>
   rw[d]at k;obtain rfl:=H d;have Y:b<p.size:=by have:=e.1;omega
   have P:l.cell? ⟨F,b,none⟩=some (p.getD b undef):=by rw[cell_of_row l F b p T _ Q];simp[Y]
   have x:=wv l r h ⟨F,b,none⟩ _ y d P;refine .same z ?_ (aX.wu e b W) k;simp[execOp,S,I,Instr.loadAt,Instr.sureAddr,x]
 .rename_i V i;rw[i]at E;obtain⟨W,k⟩:=D;generalize K:a.eval C=k3 at E;cases E with
  |bU w b g V n hH j9=>
   have k0:=λL s=>z.ro _ _ _ (hH L s);cases d:h.isRow with
   |true=>
    rw[d]at k;have q:l.rangeAt w b ((List.range c).map g):=by intro L v s;grind
    have x:=run_loadAt_mid l w b r ((List.range c).map g) h q y d (by simp[B]);refine .same z (v:= .agg ((List.range c).map g).toArray) ?_ ?_ k
    .simp only[execOp,S,K,Sem.run_bind,x];rfl
    .refine .agg _ _ (λA P=>n A (a6M P)) aaW (λL k4 y=> ?_);have k1:L<c:=by grind
     rw[a7D k1]at y;simp_all
   |false=>
    rw[d]at k;obtain rfl:=H d;have P:=k0 0 aaU;have x:=wv l r h ⟨w,b,none⟩ _ y d P;refine .same z (v:=g 0) ?_ ?_ k
    .simp[execOp,S,K,Instr.loadAt,Instr.sureAddr,x]
    .match V,W with
     |A::V,_=>exact j9 0 A rfl
 .trivial
theorem I9 (k:TypeId) (c b:Array Value) (d:Nat) {h:Nat×Nat} (x:l.heap[e]? =some (.cells c b2 h)) (y: ∀p,p<c.size-> ¬(h.1<=p/\p<h.2)) (F:d+b.size<=c.size) (z: ∀C∈b.toList,C.oneCell'=true) (v:Value) (G:v.cells=b)
  (D:(m.info? k).map (·.size)=some b.size):(Instr.storeAt k (.pointer (some ⟨e,d,none⟩)) v).run m l= .ok () (l.setRow e (dc c d b.toList)):=by
 have r:=tS m e d b2 h b.toList 0 c l x y (by trivial) z;simp only[a8A]at r;have L:(storeCells ⟨e,d,none⟩ b.toList).run m l= .ok () (l.setRow e (dc c d b.toList)):=by rw[r];rfl
 cases E:m.info? k with
 |none=>simp[E]at D
 |some P=>simp_all [Instr.storeAt,Instr.sureAddr,storeVar,sizeOf,typeInfo]
def Ia (k:TypeId) (c b:Operand) (C:o.op= .store k c b) (p:Nat) (D:(m.info? k).map (·.size)=some p) (v:0<p) (E:aQ c=true) (F:aQ b=true) (r:bO u a j) (L:Holds u f l)
  (d:G ⟨m,t⟩ (.store p c b) j f Z):bW m t o a l u f Z:=by
 have x:=r.al c E;have P:=r.al b F;simp only[G]at d;split at d
 case h_2=>trivial
 rename_i w y S;rw[S]at x;split at d
 .rename_i A V;obtain⟨W,B,e⟩:=d;have g:=x.lj;obtain⟨h,z⟩:=P.cells aaU;obtain⟨i,T,n,H,q⟩:=Step.store L V y (al j b).cells (a.eval b).cells h z aaU;refine .skip ?_ q e;have s:=I9 k i (a.eval b).cells y n (wi _) (by have:=h.1;omega) (h.nX z) (a.eval b) rfl (by rw[D,h.1,W]);simp only[execOp,C,g,Sem.run_bind,s];rfl
 .trivial
def Ib (c:TypeId) (p:o.op= .alloc c) (h:TypeInfo) (r:m.info? c=some h) (b:Value) (x:h.zero=some b) (y: ∀d∈b.cells.toList,d.oneCell'=true) (k:Holds u f l)
  (z:G ⟨m,t⟩ (.alloc c (b.cells.toList.map cw)) j f Z):bW m t o a l u f Z:=by
 refine .value ?_ (Step.new k b.cells c (b.cells.toList.map cw) (λD C=>by obtain⟨d,_,rfl⟩:=a6S.1 C;exact nZ d) (bw.p9 u _ y))
  (.ptr _ _) (z _ k.ef)
 simp[execOp,p,Instr.alloc,zeroValue,typeInfo,r,x,newVar,newRow]
theorem Ic (c:TypeId) (b:Operand) (k:o.op= .box c b) (p:aQ b=true) (r:bO u a j) (d:Holds u f l) (h:G ⟨m,t⟩ (.box c b) j f Z):bW m t o a l u f Z:=by obtain⟨x,y⟩:=(r.al b p).cells h.1;refine .value ?_ (Step.new d _ c _ y x) (.ptr _ _) (h.2 _ d.ef);simp[execOp,k,Instr.box,newVar,newRow]
def AS (b:Operand) (c:o.op= .move b\/o.op= .assign b) (d:aQ b=true) (h:bO u a j) (k:Holds u f l) (p:G ⟨m,t⟩ (.eY b) j f Z):bW m t o a l u f Z:=by refine .same k ?_ (h.al b d) p;rcases c with c|c<;>simp[execOp,c]
theorem Ie (b c d:Operand) (k:o.op= .pick b c d) (z:aQ b=true) (C:aQ c=true) (D:aQ d=true) (h:bO u a j) (p:Holds u f l) (r:G ⟨m,t⟩ (.pick b c d) j f Z):bW m t o a l u f Z:=by
 have x:=h.al b z;simp only[G]at r;split at r
 case h_2=>trivial
 rename_i E F;rw[F]at x;have y:=x.dV;cases E
 .exact .same p (by simp[execOp,k,y,asBool]) (h.al d D) (by trivial)
 .exact .same p (by simp[execOp,k,y,asBool]) (h.al c C) (by trivial)
def Ig (c:Operand) (k:o.op= .nilCheck c) (x:aQ c=true) (y:bO u a j) (p:Holds u f l) (d:G ⟨m,t⟩ (.qt c) j f Z):bW m t o a l u f Z:=by
 have b:=y.al c x;simp only[G]at d;split at d
 .rename_i D E h;rw[h]at b;have:=b.lj;exact .same p (by simp[execOp,k,this]) (.ptr _ _) d
 .rename_i z h;rw[h]at b;generalize r:a.eval c=C at b;refine .same p ?_ b d;cases b;simp[execOp,k,r]
 .rename_i F z h;rw[h]at b;generalize r:a.eval c=C at b;refine .same p ?_ b d;cases b;simp[execOp,k,r]
 .trivial
theorem AT (k:aX u e4 (.bU g)) (d:Nat): ∃b c,e4= .pointer (some ⟨b,c,none⟩)/\aX u (.pointer (some ⟨b,c+d,none⟩)) (.bU (g.drop d)):=by
 cases k with
 |bU b c p g r hH z=>refine⟨b,c,rfl,.bU b (c+d) (λh=>p (d+h)) _ (λx y=>r x (a7e y)) (λh C=> ?_) (λh D E=> ?_)⟩;grind;grind
theorem hv (b c d:Nat):(⟨b,c,none⟩:Addr).add d=⟨b,c+d,none⟩:=Addr.add_mid b c d
theorem Ih (r:TypeId) (d:Operand) (x:Nat) (C:o.op= .fieldAddr r d x) (D:Array Field) (e:m.underlying r=some (.struct D)) (b:Field) (g:D[x]? =some b) (E:Nat) (P:(m.info? b.type).map (·.size)=some E) (i:E≠0)
  (S:aQ d=true) (T:bO u a j) (F:Holds u f l) (h:G ⟨m,t⟩ (.lb b.offset d) j f Z):bW m t o a l u f Z:=by
 have k:=T.al d S;have L: ∀p c:Nat,(Instr.fieldAt r (.pointer (some ⟨p,c,none⟩)) x).run m l= .ok (.pointer (some ⟨p,c+b.offset,none⟩)) l:=by
  intro p c;cases V:m.info? b.type with
  |none=>simp[V]at P
  |some ii=>simp_all [Instr.fieldAt,run_underlying,Instr.sureAddr,fieldPlace,sizeOf,typeInfo,hv]
 simp only[G]at h;split at h
 .rename_i n c y;rw[y]at k;have z:=k.lj;exact .same F (by simp only[execOp,C,z,Sem.run_bind,L];rfl) (.ptr _ _) h
 .rename_i q y;rw[y]at k;obtain⟨p,c,z,W⟩:=AT k b.offset;exact .same F (by simp only[execOp,C,z,Sem.run_bind,L];rfl) W h
 .trivial
theorem Ii (C:TypeId) (h k:Operand) (A:o.op= .indexAddr C h k) (D:Nat) (E:TypeId) (W:m.underlying C=some (.array D E)) (c:Nat) (S:(m.info? E).map (·.size)=some c)
  (e:aQ h=true) (g:aQ k=true) (T:bO u a j) (V:Holds u f l) (p:G ⟨m,t⟩ (.qu c D h k) j f Z):bW m t o a l u f Z:=by
 have r:=T.al h e;have x:=T.al k g;have B: ∀(y d) (z) (b:Int),0<=b->b<D->(Instr.indexAt C (.pointer (some ⟨y,d,none⟩)) (.int z b)).run m l= .ok (.pointer (some ⟨y,d+b.toNat*c,none⟩)) l:=by
  intro y d z b i n;cases F:m.info? E with
  |none=>simp[F]at S
  |some ii=>
   have q:ii.size=c:=by simpa[F] using S
   simp[Instr.indexAt,asIntOf,run_underlying W,Instr.sureAddr,i,n,sizeOf,typeInfo,F,q,hv]
 simp only[G]at p;split at p
 .rename_i H d z b L P;rw[L]at r;rw[P]at x;have s:=r.lj;have v:=x.dV;exact .same V (by simp_all [execOp]) (.ptr _ _) p.2.2
 .rename_i I z b L P;rw[L]at r;rw[P]at x;have v:=x.dV;obtain⟨y,d,s,w⟩:=AT r (b.toNat*c);exact .same V (by simp_all [execOp]) w p.2.2
 .trivial
theorem cR {d:Nat}: ∀ {b:List R},(∀c∈b,c.cells.length=d)->(flat b).length=b.length*d
 | [],_=>by simp[flat]
 |k::b,h=>by
  have:=cR (λc p=>h c (a7X _ p));have r:=h k a8u;simp only[flat,a7a,a6A,a6E,a7I,a9v]at this|-;omega
theorem fX {d:Nat}: ∀ {c:List R} (b:Nat),(∀h∈c,h.cells.length=d)->(flat c).drop (b*d)=flat (c.drop b)/\(flat c).take (b*d)=flat (c.take b)
 |c,0,_=>by simp[flat]
 | [],b+1,_=>by simp[flat]
 |k::c,b+1,p=>by
  obtain⟨x,y⟩:=fX b (λh r=>p h (a7X _ r));have z:=p k a8u;have h:(b+1)*d=k.cells.length+b*d:=by grind
  grind[flat,List.drop_append,List.drop_of_length_le,Nat.add_sub_cancel_left]
def aX.wx (x:aX u e4 (.J g N)) (L:g≠ []): ∃(c d h k:Nat) (p:Nat->Value),e4= .slice (some ⟨c,d,none⟩) g.length h/\0<k/\g.length<=h/\(∀y∈g,y.cells.length=k)/\(∀z∈flat g,z.one=true)/\
  (∀b,b<g.length*k->u c (d+b)=some (p b))/\(∀b r,(flat g)[b]? =some r->aX u (p b) r)/\N.ok c d h:=by
 cases x with
 |dg=>trivial
 |J c d len h k p g N hk hlen C D E hH F G=>subst hlen;exact⟨c,d,h,k,p,rfl,hk,C,D,E,hH,F,G⟩
theorem Ij (e:TypeId) (y S:Operand) (O:o.op= .indexAddr e y S) (g:TypeId) (T:m.underlying e=some (.slice g)) (c:Nat) (A:(m.info? g).map (·.size)=some c)
  (Q:aQ y=true) (X:aQ S=true) (B:bO u a j) (i:Holds u f l) (h:G ⟨m,t⟩ (.dN c y S) j f Z):bW m t o a l u f Z:=by
 have k:=B.al y Q;have z:=B.al S X;have Y: ∀(C p len r:Nat) (D) (b:Int),0<=b->b<len->(Instr.indexAt e (.slice (some ⟨C,p,none⟩) len r) (.int D b)).run m l= .ok (.pointer (some ⟨C,p+b.toNat*c,none⟩)) l:=by
  intro C p len r D b E V;cases n:m.info? g with
  |none=>simp[n]at A
  |some ii=>
   have j9:ii.size=c:=by simpa[n] using A
   simp[Instr.indexAt,asIntOf,run_underlying T,E,V,sizeOf,typeInfo,n,j9,hv]
 simp only[G]at h;split at h
 .rename_i q k8 D b F L;rw[F]at k;rw[L]at z;have s:=z.dV;obtain⟨E,h⟩:=h;split at h
  case h_2=>trivial
  rename_i el H;obtain⟨k0,P⟩:=h;have k9:=(a6H.1 H).1;obtain⟨C,p,r,v,k1,l0,l1,I,w,l2,k2,k3,_⟩:=k.wx (by grind);have k4:=a6D H;obtain rfl:c=v:=by rw[<-k0];exact w el k4
  have l3:b<(q.length):=aaU;refine .same i (v:= .pointer (some ⟨C,p+b.toNat*c,none⟩)) (by simp_all [execOp]) ?_ P;have K: ∀d x,el.cells[d]? =some x->(flat q)[b.toNat*c+d]? =some x:=λd x T=>by
   have l4:=(fX b.toNat w).1;have:((flat q).drop (b.toNat*c))[d]? =some x:=by grind[List.drop_eq_getElem_cons,List.getElem?_eq_some_iff,flat,List.getElem?_append_left]
   simpa using this
  refine .bU C _ (λd=>k1 (b.toNat*c+d)) _ (λl5 l6=> ?_) (λd k5=> ?_) (λd x T=>k3 _ x (K d x T));grind[List.getElem?_of_mem,List.mem_of_getElem?]
  .rw[aa0];refine k2 _ ?_;have:=(a6H.1 (K d _ (a6y k5))).1;rwa[cR w]at this
 .rename_i W p len l7 v D b F L;rw[F]at k;rw[L]at z;have s:=z.dV;obtain⟨rfl,E,V,P⟩:=h;generalize M:a.eval y=k6 at k;cases k with
  |bE W p len r c k7 I=>exact .same i (by simp_all [execOp]) (.ptr _ _) P
 .rename_i W len r v D b F L;rw[F]at k;rw[L]at z;have s:=z.dV;obtain⟨rfl,E,V,P⟩:=h;generalize M:a.eval y=k6 at k;cases k with
  |ao W len r c k7 I=>have N:=Y W 0 len r D b E V;rw[a7c]at N;exact .same i (by simp only[execOp,O,M,s,Sem.run_bind,N];rfl) (.ptr _ _) P
 .trivial
end
section
variable  {o:Oper}{a:Act}   
theorem AU {c:Array Value} (p:bw u c g) (L: ∀z∈g,z.one=true) (h:TypeId) (k:TypeDesc) (C:m.underlying h=some k) (d:Nat) (r:(m.info? h).map (·.size)=some d) (D:k.isRow=false->d=1)
  (b:Nat) (E:b+d<=g.length): ∃v,(∀l,(part h c b).run m l= .ok v l)/\aX u v (aL k.isRow d (g.drop b)):=by
 cases x:m.info? h with
 |none=>simp[x]at r
 |some F=>
  have P:F.size=d:=by simpa[x] using r
  cases y:k.isRow with
  |true=>simp_all [mb,aX.aL]
  |false=>
   obtain rfl:=D y;have G:b<c.size:=by have:=p.1;omega
   exact⟨_,λl=>o3 C y c b (c.getD b undef) (by simp[G]) l,aX.wu p b E⟩
def Ik (r:TypeId) (c:Operand) (x:Nat) (z:o.op= .field r c x) (y:Array Field) (C:m.underlying r=some (.struct y)) (b:Field) (D:y[x]? =some b) (h:TypeDesc) (E:m.underlying b.type=some h) (k:Nat)
  (F:(m.info? b.type).map (·.size)=some k) (L:h.isRow=false->k=1) (P:aQ c=true) (S:bO u a j) (T:Holds u f l) (d:G ⟨m,t⟩ (.pd h.isRow b.offset k c) j f Z):bW m t o a l u f Z:=by
 have p:=S.al c P;simp only[G]at d;split at d
 case h_2=>exact d.elim
 rename_i V W;rw[W]at p;generalize e:a.eval c=w at p;cases p with
 |agg A V g i n=>obtain⟨v,q,s⟩:=AU ⟨i,n⟩ g b.type h E k F L b.offset d.1;exact .same T (by simp[execOp,z,e,Instr.field,run_underlying C,D,asAgg,q]) s d.2
theorem Il (y:TypeId) (c h:Operand) (B:o.op= .index y c h) (z:Nat) (d:TypeId) (H:m.underlying y=some (.array z d)) (k:TypeDesc) (F:m.underlying d=some k) (b:Nat)
  (p:(m.info? d).map (·.size)=some b) (L:k.isRow=false->b=1) (P:aQ c=true) (S:aQ h=true) (C:bO u a j) (T:Holds u f l) (r:G ⟨m,t⟩ (.pa k.isRow b z c h) j f Z):bW m t o a l u f Z:=by
 have x:=C.al c P;have D:=C.al h S;simp only[G]at r;split at r
 case h_2=>trivial
 rename_i V I W e g;rw[e]at x;rw[g]at D;have K:=D.dV;generalize M:a.eval c=N at x;cases x with
 |agg O V i n q=>
  obtain⟨Q,hm,s,w⟩:=r;obtain⟨v,X,A⟩:=AU ⟨n,q⟩ i d k F b p L (W.toNat*b) s;cases E:m.info? d with
  |none=>simp[E]at p
  |some ii=>
   have Y:ii.size=b:=by simpa[E] using p
   exact .same T (by simp_all [execOp,Instr.index,asIntOf,run_underlying,sizeOf,typeInfo]) A w
def Im (h:TypeId) (c d:Operand) (C:o.op= .index h c d) (D:m.underlying h=some .string) (E:aQ c=true) (F:aQ d=true) (k:bO u a j) (L:Holds u f l) (b:G ⟨m,t⟩ (.lV c d) j f Z):bW m t o a l u f Z:=by
 have p:=k.al c E;have r:=k.al d F;simp only[G]at b;split at b
 case h_2=>trivial
 rename_i x n y P S;rw[P]at p;rw[S]at r;have T:=p.dV;have V:=r.dV;obtain⟨W,b⟩:=b;split at b
 case h_2=>trivial
 rename_i e z;have g:x[y.toNat]? =some e:=by have i:=(a7P.1 z).1;rw[getElem?_pos x y.toNat i];have:=(a7P.1 z).2;rw[<-this];rfl
 exact .same L (by simp[execOp,C,T,V,Instr.index,asIntOf,run_underlying D,W,g]) (.v _ rfl) b
theorem Io (b:Operand) (c:Nat) (k:o.op= .extract b c) (p:aQ b=true) (r:bO u a j) (x:Holds u f l) (d:G ⟨m,t⟩ (.ext b c) j f Z):bW m t o a l u f Z:=by
 have h:=r.al b p;simp only[G]at d;split at d
 case h_2=>trivial
 rename_i y z;rw[z]at h;split at d
 case h_2=>trivial
 rename_i C D;generalize E:a.eval b=P at h;cases h with
 |aJ us y S F=>
  have L:c<us.size:=by grind
  have:=F c C D;refine .same x ?_ this d;simp[execOp,k,E,Instr.extract,L]
def Ip (L:TypeId) (c:Operand) (x:o.op= .call {callee:= .builtin .len,args:= #[c],argTypes:= #[L]}) (T:TypeId) (y:m.underlying L=some (.slice T))
  (V:aQ c=true) (W:bO u a j) (z:Holds u f l) (h:G ⟨m,t⟩ (.len c) j f Z):bW m t o a l u f Z:=by
 have b:=W.al c V;simp only[G]at h;split at h
 .rename_i P e k;rw[k]at b;generalize p:a.eval c=C at b;have D: ∃E d,C= .slice E P.length d:=by
   cases b with
   |dg E d=>simp
   |J n S len d r q P e hk D=>subst D;simp
  obtain⟨E,d,rfl⟩:=D;exact .same z (by simp[execOp,x,resolve,invoke,builtin,p,Builtin.len_,run_underlying y,goInt]) (.v _ rfl) h
 .rename_i F S g s r k;rw[k]at b;generalize p:a.eval c=C at b;cases b with
  |bE F S len d r hk i=>exact .same z (by simp[execOp,x,resolve,invoke,builtin,p,Builtin.len_,run_underlying y,goInt]) (.v _ rfl) h
 .rename_i F g d r k;rw[k]at b;generalize p:a.eval c=C at b;cases b with
  |ao F len d r hk i=>exact .same z (by simp[execOp,x,resolve,invoke,builtin,p,Builtin.len_,run_underlying y,goInt]) (.v _ rfl) h
 .trivial
def Iq (d:TypeId) (b:Operand) (k:o.op= .call {callee:= .builtin .len,args:= #[b],argTypes:= #[d]}) (p:m.underlying d=some .string)
  (r:aQ b=true) (x:bO u a j) (y:Holds u f l) (c:G ⟨m,t⟩ (.qv b) j f Z):bW m t o a l u f Z:=by
 have h:=x.al b r;simp only[G]at c;split at c
 .rename_i D z;rw[z]at h;have C:=h.dV;exact .same y (by simp[execOp,k,resolve,invoke,builtin,C,Builtin.len_,run_underlying p,goInt]) (.v _ rfl) c
 .trivial
theorem Ir (c:BinOp) (x:TypeId) (k p d:Value) (b:br c k p=some d) (r:World):(binOp c x k p).run m r= .ok d r/\d.oneCell'=true:=by
 unfold br at b;split at b
 .rename_i C D E F;split at b
  .rename_i h;unfold o0 at b;split at b
   .cases b
   .rename_i y;cases c<;>simp[ft]at h<;>simp only[]at b<;>(obtain rfl:=a6x b)<;>simp[binOp,Op.shift,y,Value.oneCell']
  .rename_i h;split at b
   .rename_i z;subst z;cases c<;>simp[ft]at h<;>simp only[hN]at b<;>first
     |(split at b<;>first|(cases b;done)|skip)
     |skip
    all_goals (obtain rfl:=a6x b)
    all_goals simp_all [binOp,Op.intArith,Op.intDiv,Op.intBits,Op.intCmp,Value.oneCell']
    all_goals grind
   .cases b
 .unfold qq at b;cases c<;>simp only[]at b<;>first
   |(cases b;done)
   |(split at b<;>first|(cases b;done)|skip)
   |skip
  all_goals (obtain rfl:=a6x b)
  all_goals simp[binOp,Op.stringOp,Value.oneCell']
  omega
 .cases b
def Is (b:BinOp) (p:TypeId) (r x:Operand) (d h:Value) (c:(br b d h).isSome) (k:World):(eqGuard b p r x d h).run m k= .ok () k:=by
 unfold br at c;split at c<;>first
  |(cases b<;>simp[eqGuard];done)
  |simp at c
theorem wy (h:BinOp) (k:TypeId) (b c:Operand) (y:TypeId) (V:o.op= .binOp h k b c y) (z:aQ b=true) (C:aQ c=true) (p:bO u a j) (D:Holds u f l) (d:G ⟨m,t⟩ (.bin h b c) j f Z):bW m t o a l u f Z:=by
 have r:=p.al b z;have x:=p.al c C;simp only[G]at d;split at d
 case h_2=>trivial
 rename_i E v F L;rw[F]at r;rw[L]at x;have W:=r.dV;have e:=x.dV;split at d
 case h_2=>trivial
 rename_i P S;obtain⟨g,T⟩:=Ir (m:=m) h k E v P S l;exact .same D (by simp_all [execOp,Is]) (.v _ T) d
def It (c:UnOp) (x:TypeId) (d:Operand) (y:o.op= .unOp c x d) (z:aQ d=true) (C:bO u a j) (D:Holds u f l) (h:G ⟨m,t⟩ (.un c d) j f Z):bW m t o a l u f Z:=by
 have k:=C.al d z;simp only[G]at h;split at h
 case h_2=>trivial
 rename_i E F;rw[F]at k;have L:=k.dV;split at h
 case h_2=>trivial
 rename_i p b;have r:(Op.unary c E).run m l= .ok p l/\p.oneCell'=true:=by
  unfold o1 at b;split at b
  .cases c<;>simp only[]at b<;>first|(cases b;done)|skip
   obtain rfl:=a6x b;trivial
  .cases c<;>simp only[]at b<;>first|(cases b;done)|skip
   all_goals (obtain rfl:=a6x b)
   all_goals simp[Op.unary,Op.intArith,Op.intBits,Value.oneCell']
  .cases b
 exact .same D (by simp[execOp,y,L,r.1]) (.v _ r.2) h
def Iu (d h:TypeId) (b:Operand) (r:o.op= .convert d h b) (k x:IntKind) (y:m.underlying d=some (.int x)) (z:m.underlying h=some (.int k)) (C:aQ b=true) (D:bO u a j) (E:Holds u f l) (c:G ⟨m,t⟩ (.iY k b) j f Z):bW m t o a l u f Z:=by
 have p:=D.al b C;simp only[G]at c;split at c
 case h_2=>trivial
 rename_i P S F;rw[F]at p;have L:=p.dV;exact .same E (by simp[execOp,r,L,convert,run_underlying y,run_underlying z,Conv.intToInt]) (.v _ rfl) c
theorem Iv (D:Bool) (b:TypeId) (k p:Operand) (w:TypeId) (l2:o.op= .binOp (if D then .neq else .eql) b k p w) (d:Nat) (c:List cb) (A:flatK m d b=some c) (S:m.cellsOf b=c.length) (T:(m.info? b).isSome) (l3:d<=10000)
  (B:(m.underlying b).any (·.isRow)=true) (l4:m.eqGuardType m.depth b=false) (H:aQ k=true) (I:aQ p=true) (V:bO u a j) (W:Holds u f l) (E:G ⟨m,t⟩ (.eqv D (mZ c) k p) j f Z):bW m t o a l u f Z:=by
 have F:=V.al k H;have L:=V.al p I;simp only[G]at E;split at E
 case h_2=>trivial
 rename_i r x K M;rw[K]at F;rw[M]at L;generalize l5:a.eval k=l6 at F;generalize l7:a.eval p=l8 at L;cases F with
 |agg h r l9 N O=>
  cases L with
  |agg us x n0 Q X=>
   obtain⟨Y,j9,e⟩:=E;have g:bw u h r:=⟨N,O⟩;have i:bw u us x:=⟨Q,X⟩;obtain⟨n,k0⟩:=pg _ r h.toList Y (bw.dU.1 g).1 (bw.dU.1 g).2;obtain⟨q,k1⟩:=pg _ x us.toList j9 (bw.dU.1 i).1 (bw.dU.1 i).2;rw[tW]at n q;have k2:h.size=c.length:=by have:=o2 n;trivial
   have k3:us.size=c.length:=by have:=o2 q;trivial
   obtain⟨P,s⟩:=a7m.1 T;have v:P.size=c.length:=by simpa[Program.cellsOf,s] using S
   obtain⟨y,k4⟩: ∃y,m.underlying b=some y:=by
    cases hu:m.underlying b with
    |none=>simp[hu]at B
    |some y=>simp
   have k5:y.isRow=true:=by simp_all
   obtain⟨n1,n2,k6,z,C,k7,k8⟩:=tV d b c A S T (10000 - d) l h us 0 (by grind) (by grind);rw[mb k4 k5 s]at z C;have k9:h.extract 0 (0+P.size)=h:=by rw[a7c,v,<-k2];simp
   have l0:us.extract 0 (0+P.size)=us:=by rw[a7c,v,<-k3];simp
   rw[k9]at z;rw[l0]at C;simp only[Result.ok.injEq,and_true]at z C;subst z;subst C;rw[show 10000 - d+d=10000 by omega]at k7;have l1:k6=peq (.agg r) (.agg x):=by rw[a9f,qs,k8,a8a,a8a,k0,k1];grind[List.take_of_length_le,R.agg.injEq,List.map_inj_right]
   subst l1;cases D
   .refine .same W ?_ (.v _ rfl) (by simpa using e);simp_all [execOp,run_eqGuard_agg,run_eql_struct]
   .refine .same W ?_ (.v _ rfl) (by simpa using e);simp_all [execOp,run_eqGuard_agg,run_neq_struct]
def Iw (C:Bool) (d:TypeId) (E F:Operand) (q:TypeId) (h:o.op= .binOp (if C then .neq else .eql) d E F q) (L:TypeId) (S:m.underlying d=some (.pointer L)) (T:TypeInfo) (s:m.info? L=some T) (v:T.size≠0) (w:aQ E=true) (A:aQ F=true) (W:bO u a j) (k:Holds u f l)
  (p:G ⟨m,t⟩ (.qw C E F) j f Z):bW m t o a l u f Z:=by
 have c:=W.al E w;have r:=W.al F A;have B:m.pointee d=L:=by simp[Program.pointee,S]
 have H:m.underlying d=some (.pointer (m.pointee d)):=by rw[B];exact S
 have D: ∀P:Option Addr,(Op.equalIn 10000 d (.pointer P) (.pointer none)).run m l= .ok P.isNone l:=λP=>run_equalIn_pointer_nil l 9999 d P H;simp only[G]at p;split at p
 .rename_i V I y z;rw[y]at c;rw[z]at r;have x:=c.lj;have b:=r.dV;cases C
  .exact .same k (by simp[execOp,h,x,b,eqGuard,binOp,Op.equal,Op.maxDepth,D]) (.v _ rfl) p
  .exact .same k (by simp[execOp,h,x,b,eqGuard,binOp,Op.equal,Op.maxDepth,D]) (.v _ rfl) p
 .rename_i K y z;rw[y]at c;rw[z]at r;have b:=r.dV;generalize e:a.eval E=N at c;cases c with
  |bU O I Q K X hH Y=>
   cases C
   .exact .same k (by simp[execOp,h,e,b,eqGuard,binOp,Op.equal,Op.maxDepth,D]) (.v _ rfl) p
   .exact .same k (by simp[execOp,h,e,b,eqGuard,binOp,Op.equal,Op.maxDepth,D]) (.v _ rfl) p
 .rename_i y z;rw[y]at c;rw[z]at r;have x:=c.dV;have b:=r.dV;cases C
  .exact .same k (v:= .bool true) (by simp[execOp,h,x,b,eqGuard,binOp,Op.equal,Op.maxDepth,D]) (.v _ rfl) (by trivial)
  .exact .same k (v:= .bool false) (by simp[execOp,h,x,b,eqGuard,binOp,Op.equal,Op.maxDepth,D]) (.v _ rfl) (by trivial)
 .rename_i V g j9 k0 y z;obtain⟨⟨rfl,rfl⟩,p⟩:=p;rw[y]at c;rw[z]at r;have x:=c.lj;have b:=r.lj;have M:(sizeOf L).run m l= .ok T.size l:=by simp[sizeOf,typeInfo,s]
  have i: ∀n,(Op.equalIn (n+1) d (.pointer (some ⟨V,g,none⟩)) (.pointer (some ⟨V,g,none⟩))).run m l= .ok true l:=λn=>by simp[Op.equalIn,run_underlying S,M,v,run_sameAddr_same]
  cases C
  .exact .same k (v:= .bool true) (by simp[execOp,h,x,b,eqGuard,binOp,Op.equal,Op.maxDepth,i]) (.v _ rfl) (by trivial)
  .exact .same k (v:= .bool false) (by simp[execOp,h,x,b,eqGuard,binOp,Op.equal,Op.maxDepth,i]) (.v _ rfl) (by trivial)
 .trivial
theorem Ix (b:FuncId) (c:Func) (args:Array Operand) (y:Array TypeId) (z:o.op= .call {callee:= .value (.func b),args,argTypes:=y}) (C:m.funcs[b]? =some c) (D:c.body.isSome) (E:c.name≠ "runtime.NumGoroutine")
  (F: ∀h∈args.toList,aQ h=true) (L:bO u a j) (r:Holds u f l) (P:G ⟨m,t⟩ (.fW b args.toList) j f Z):bW m t o a l u f Z:=by
 intro g i;have S:bw u (args.map a.eval) (args.toList.map (al j)):=by
  refine bw.dU.2 ⟨aaV,λT h V d k=> ?_⟩;rw[a9b,a7d]at d;rw[a7d]at k;cases p:args.toList[T]? with
  |none=>simp[p]at d
  |some op=>
   rw[p]at d k;obtain rfl:a.eval op=h:=by simpa using d
   obtain rfl:al j op=V:=by simpa using k
   exact L.al op (F op (a6D p))
 have W:=P (args.map a.eval) l u S r;have e:(execOp a.eval o).run m l= .ok (.enter b (args.map a.eval)) l:=by
  cases x:c.body with
  |none=>simp[x]at D
  |some n=>simp[execOp,z,resolve,Act.eval,Deferred.ofValue,invoke,callFunc,C,E,x]
 unfold Oper.wp;rw[e];exact W.mono λq s r=>by
  grind
end
variable{b1:Int}
section
variable  {o:Oper}{a:Act}   
def valOf (b:Act) (c:Option Operand):Option Value:=c.map b.eval
theorem gg (h:bO u a j) {b:Option Operand} (p:b.all aQ=true) (c:cX j b e=some b1):(b=none/\b1=e)\/ ∃d,valOf a b=some (.int d b1):=by
 cases b with
 |none=>left;simp only[cX,a6K]at c;simp_all
 |some b=>
  right;simp only[cX]at c;split at c
  .rename_i d r k;obtain rfl:=a6x c;have:=h.al b (by trivial);rw[k]at this;exact⟨d,by simp[valOf,this.dV]⟩
  .cases c
theorem AV (z:Bool) (d h:Nat) (k p:Option Operand) (c b:Int) (C:(k=none/\c=0)\/ ∃r,valOf a k=some (.int r c)) (D:(p=none/\b=d)\/ ∃r,valOf a p=some (.int r b))
  (E:0<=c) (F:c<=b) (T:b<=d) (V:d<=h) (x:World):(Instr.sliceBounds z d h (valOf a k) (valOf a p) none).run m x= .ok (c.toNat,b.toNat,h) x:=by
 have W:(b.toNat)=b:=a8h aaU;have G:b<=(h):=aaU;have L:0<=b:=aaU;have y:valOf a none=none:=rfl;rcases C with ⟨rfl,rfl⟩|⟨e,P⟩<;>rcases D with ⟨rfl,rfl⟩|⟨f,S⟩
 .rfl
 .simp only[Instr.sliceBounds,y,S];simp[run_sliceBound,G,L]
 .simp only[Instr.sliceBounds,y,P];simp[run_sliceBound,E,F]
 simp_all [Instr.sliceBounds,run_sliceBound]
theorem Iy (k5:TypeId) (C:Operand) (D g:Option Operand) (n2:o.op= .slice k5 C D g none) (p:TypeId) (l0:m.underlying k5=some (.slice p)) (E:Nat) (K:(m.info? p).map (·.size)=some E) (l1:aQ C=true) (M:D.all aQ=true) (N:g.all aQ=true)
  (P:bO u a j) (O:Holds u f l) (F:G ⟨m,t⟩ (.pb E C D g) j f Z):bW m t o a l u f Z:=by
 have r:=P.al C l1;have Q: ∀(x) (len d:Nat) (c b:Int),((D=none/\c=0)\/ ∃X,valOf a D=some (.int X c))->((g=none/\b=len)\/ ∃X,valOf a g=some (.int X b))->0<=c->c<=b->b<=len->len<=d->
   a.eval C= .slice x len d->(execOp a.eval o).run m l= .ok (.value (sliced x c.toNat b.toNat d E)) l:=by
  intro x len d c b w S T V L k6 i;have l2:=AV (m:=m) true len d D g c b w S T V L k6 l;simp only[valOf]at l2;cases l3:m.info? p with
  |none=>simp[l3]at K
  |some ii=>simp_all [execOp,Instr.sliceAt,Instr.slice,run_underlying,sizeOf,typeInfo,sliced]
 simp only[G]at F;split at F
 .rename_i h k7 y;rw[y]at r;split at F
  case h_2=>trivial
  rename_i c b z W;obtain⟨T,V,L,n3,n⟩:=F;have w:=gg P M z;have S:=gg P N W;generalize i:a.eval C=A at r;have l4: ∃x d,A= .slice x h.length d/\h.length<=d:=by
   cases r with
   |dg x d=>simp
   |J Y B len d E j9 h k7 K k0 e=>grind
  obtain⟨x,d,k1,e⟩:=l4;have q:=Q x h.length d c b (by trivial) S T V L e (by rw[i,k1]);refine .same O q ?_ n;have l5:aX u (sliced x c.toNat b.toNat d E) (.J ((h.take b.toNat).drop c.toNat) .any):=by
   by_cases l6:c.toNat=b.toNat
   .have p:(h.take b.toNat).drop c.toNat= []:=by rw[List.drop_eq_nil_iff];simp;omega
    rw[p,l6];unfold sliced;rw[a8T];refine .dg _ _ _ (λl7=> ?_) trivial;split at l7
    .omega
    .cases r with
     |dg n4 k8 n5 bZ=>simp_all
     |J Y B len k8 k j9 h k7 K k0 e=>simp_all
   .have k9:h≠ []:=by rintro rfl;simp at L;omega
    obtain⟨Y,B,k8,k,j9,k2,l8,n9,k3,a00,l9,a01,_⟩:=r.wx k9;rw[k1]at k2;simp only[Value.slice.injEq]at k2;obtain⟨rfl,_,rfl⟩:=k2;obtain rfl:k=E:=by
     match h,k9 with
     |gH::h,_=>simp_all
    unfold sliced;rw[if_neg aaU,a7F,hv];have n0: ∀p∈(h.take b.toNat).drop c.toNat,p.cells.length=k:=λp y=>k3 p (a6M (a7e y));have a02:flat ((h.take b.toNat).drop c.toNat)=((flat h).take (b.toNat*k)).drop (c.toNat*k):=by rw[(fX b.toNat k3).2,(fX c.toNat (λp y=>k3 p (a6M y))).1]
    have k0:((h.take b.toNat).drop c.toNat).length=b.toNat - c.toNat:=aaW;refine .J Y _ _ _ k (λH=>j9 (c.toNat*k+H)) _ .any l8 k0.symm aaU n0 (λa03 k6=> ?_) (λH a04=> ?_) (λH a05 l0=> ?_) trivial;grind
    .rw[aa0];refine l9 _ ?_;have:c.toNat*k+H<b.toNat*k:=by
      have p:b.toNat*k=c.toNat*k+(b.toNat - c.toNat)*k:=by rw[<-a7I];congr 1;omega
      omega
     exact a7L this (a6O _ aaU)
    grind
  unfold wj;split
  .simp only[cX,a6K]at z W;subst z;subst W;have:(h.take ((h.length:Int)).toNat).drop ((0:Nat):Int).toNat=h:=aaV;rw[this];have n1:sliced x ((0:Nat):Int).toNat ((h.length):Int).toNat d E=A:=by rw[k1];unfold sliced;simp_all [Addr.add]
   rw[n1];exact r
  .exact l5
 .rename_i s B v d k y;rw[y]at r;split at F
  case h_2=>trivial
  rename_i c b z W;obtain⟨rfl,T,V,L,k4,n⟩:=F;have w:=gg P M z;have S:=gg P N W;generalize i:a.eval C=A at r;cases r with
  |bE s B v d E I e=>have q:=Q _ v d c b (by trivial) S T V L e i;refine .same O q ?_ n;unfold sliced;rw[if_neg aaU,a7F,hv];exact .bE _ _ _ _ _ I aaU
 .rename_i s v d k y;rw[y]at r;split at F
  case h_2=>trivial
  rename_i c b z W;obtain⟨rfl,T,V,L,k4,n⟩:=F;have w:=gg P M z;have S:=gg P N W;generalize i:a.eval C=A at r;cases r with
  |ao s v d k I e=>
   have q:=Q _ v d c b (by trivial) S T V L e i;refine .same O q ?_ n;cases D with
   |none=>
    simp only[cX,a6K]at z;subst z;simp only[a8t,qz,a7H,if_false];have:sliced (some ⟨s,0,none⟩) ((0:Nat):Int).toNat b.toNat d k= .slice (some ⟨s,0,none⟩) b.toNat d:=by unfold sliced;simp[Addr.add]
    rw[this];exact .ao _ _ _ _ I aaU
   |some D=>simp only[a8U,qz,if_true];have k4:=k4 rfl;unfold sliced;rw[if_neg aaU,a7F,hv,a7c];exact .bE _ _ _ _ _ I aaU
 .trivial
theorem wz (z:0<e) (h:i*e<=g.length) (C: ∀k∈g,k.one=true):(∀b∈er e i g,b.cells.length=e)/\flat (er e i g)=g.take (i*e)/\(er e i g).length=i:=by
 unfold er;split
 .rename_i p;subst p;rw[a7s]at h|-;have D: ∀b:R,b.one=true->b.cells= [b]:=λb d=>by cases b<;>first|rfl|(simp[R.one]at d)
  refine⟨λb d=>by grind,?_,aaW⟩;have: ∀c:List R,(∀b∈c,b.one=true)->flat c=c:=by
   intro c
   induction c with
   |nil=>intro _;rfl
   |cons E c ih=>grind[flat,List.mem_cons_self,List.mem_cons_of_mem]
  grind
 .refine⟨λb d=> ?_,?_,aaV⟩
  .obtain⟨r,x,rfl⟩:=a6S.1 d;have y:=a7O.1 x;have:(r+1)*e<=i*e:=a6O _ y;grind[R.cells,List.length_take,List.length_drop,Nat.add_mul]
  .clear h
   induction i with
   |zero=>simp[flat]
   |succ i ih=>rw[aan,a7x];simp only[flat,a7r,a6Q,a7W,a7a,a9q,a7E,R.cells]at ih|-;rw[ih,a7I,a9v,List.take_add]
theorem AW (b:f e=some (.ro g)):f.set e (.ro g)=f:=by grind[U.ai,U.an]
def Step.Iz (d:Holds u f l) (b:f.read e=some g): ∃k,Step u f l k (f.set e (.ro g)) l:=by
 unfold U.read at b;split at b
 .rename_i h c;obtain rfl:=a6x b;exact Step.freeze d c
 .rename_i h c;obtain rfl:=a6x b;rw[AW c];exact⟨u,.refl d⟩
 .rename_i T h c;obtain rfl:=a6x b;exact Step.wh d (.inr (.inl ⟨T,c⟩))
 .rename_i h c;obtain rfl:=a6x b;exact Step.wh d (.inr (.inr c))
 .cases b
theorem AX (V:TypeId) (x:Operand) (y z:Option Operand) (k9:o.op= .slice V x y z none) (h:Nat) (r:TypeId) (p:m.underlying V=some (.array h r)) (b:Nat) (w:(m.info? r).map (·.size)=some b) (F:0<b) (W:Bool) (A:aQ x=true) (B:y.all aQ=true)
  (H:z.all aQ=true) (L:bO u a j) (P:Holds u f l) (c:G ⟨m,t⟩ (.ki b h x y z W) j f Z):bW m t o a l u f Z:=by
 have e:=L.al x A;simp only[G]at c;split at c
 case h_2=>trivial
 rename_i C D I;rw[I]at e;split at c
 case h_2=>trivial
 rename_i d k K M;obtain⟨N,O,Q,c⟩:=c;split at c
 case h_2=>trivial
 rename_i X g;obtain⟨l0,c⟩:=c;have l1:=e.lj;have Y:=AV (m:=m) false h h y z d k (by simpa using gg L B K) (gg L H M) N O Q (a7g _) l;simp only[valOf]at Y;obtain⟨j9,l2,T,l3,l4,l5⟩:=P.read g;have i:(execOp a.eval o).run m l= .ok (.value (.slice (some (if h=d.toNat then⟨C,D,none⟩else⟨C,D+d.toNat*b,none⟩)) (k.toNat - d.toNat) (h - d.toNat))) l:=by
  cases k0:m.info? r with
  |none=>simp[k0]at w
  |some ii=>simp_all [execOp,Instr.sliceAt,run_underlying,Instr.sureAddr,sizeOf,typeInfo,hv]
 cases W with
 |true=>
  simp only[if_true]at c;obtain⟨l6,n⟩:=Step.Iz P g;refine .value i n ?_ c;obtain⟨_,k1,l7,_,l8,q,k2⟩:=n.holds.db C _ (U.ai _ _ _);have l9:k.toNat*b<=h*b:=a6O _ aaU;have n0:(k.toNat - d.toNat)*b+d.toNat*b=k.toNat*b:=by rw[<-a7I];congr 1;omega
  have k3: ∀E∈X.drop (D+d.toNat*b),E.one=true:=λE s=>j9 E (a7e s);obtain⟨k4,k5,v⟩:=wz (i:=k.toNat - d.toNat) F aaW k3;by_cases k6:d.toNat=k.toNat
  .have r:=a6F (by rw[v];omega);rw[r,k6,a8T];exact .dg _ _ _ (λk7=>by simp at k7) trivial
  .rw[if_neg aaU];refine .J C _ _ _ b (λS=>k1.getD (D+d.toNat*b+S) undef) _ .any F v.symm aaU k4 (λE s=> ?_) (λS n1=> ?_) (λS k8 p=> ?_) trivial;grind
   .refine k2 _ ?_;have:=q.1;omega
   .rw[k5,List.getElem?_take]at p;split at p
    .rw[a9B]at p;exact q.2 _ k8 p
    .cases p
 |false=>simp only[a7H,if_false]at c;refine .same P i ?_ c.2;rw[if_neg aaU];exact .bE _ _ _ _ _ F aaU
theorem AY (h:List Value): ∀(b c:Nat) (d:Array Value),c+b+h.length<=d.size->
  (h.zipIdx b).foldl (λ(r:Array Value) (k:Value×Nat)=>r.setIfInBounds (c+k.2) k.1) d=dc d (c+b) h:=by
 induction h with
 |nil=>intro b c d p;apply aaE;simp[dc]
 |cons y h ih=>
  intro b c d p;simp only[a6E]at p;rw[List.zipIdx_cons,a7j,ih (b+1) c _ aaW];apply aaE;simp only[dc,Array.toList_setIfInBounds,a6E];have x:c+b<d.toList.length:=aaW;rw[a7R,if_pos x];have z:(d.toList.take (c+b)).length=c+b:=by simp only[a6C];omega
  rw[show c+(b+1)=(d.toList.take (c+b)).length+1 by omega,a9n];rw[show(d.toList.take (c+b)).length+1+h.length=(d.toList.take (c+b)).length+(h.length+1) by omega,a9o];grind[List.append_assoc,List.drop_drop]
theorem AZ (F:Nat->Option (Nat×Nat)) (C:bl): ∀(r:List (Nat×Operand)) (res:List (Nat×Nat×Operand)) (b:Array Value) (c:List R) (x:List R->Prop),
  r.length=res.length->(∀(p:Nat) (d:Nat×Operand) (h:Nat×Nat×Operand),r[p]? =some d->res[p]? =some h->F d.1=some (h.1,h.2.1)/\d.2=h.2.2/\aQ d.2=true/\0<h.2.1)->bO C a j->bw C b c->(∀y∈c,y.one=true)->kp j c res x->
  ∃D z,Instr.fill F b (r.map λd=>(d.1,a.eval d.2))=some D/\bw C D z/\(∀y∈z,y.one=true)/\x z
 | [],[],b,c,x,_,_,_,E,G,L=>⟨b,c,rfl,E,G,L⟩
 |(t,k)::r,(off,cf,u)::res,b,c,x,f,P,S,E,G,L=>by
  obtain⟨T,V,W,g⟩:=P 0 _ _ rfl rfl;simp only at T V W g;subst V;obtain⟨i,v,l⟩:=L;obtain⟨e,c2⟩:=(S.al k W).cells aaU;have w:(a.eval k).cells.size=cf:=by rw[e.1,i]
  obtain⟨D,z,m,n,q,s⟩:=AZ F C r res (dc b off (a.eval k).cells.toList) (putAt c off (al j k).cells) x (by simpa using f) (λp d h A B=>P (p+1) d h (by trivial) (by trivial)) S
   (E.putAt e off aaU) (tR G c2 off) l
  refine⟨D,z,?_,n,q,s⟩;simp only[a6Q,Instr.fill,T];have H:off+(a.eval k).cells.size<=b.size:=by have:=E.1;omega
  rw[if_neg aaW];rw[show(a.eval k).cells.zipIdx.foldl (λc (y,p)=>c.setIfInBounds (off+p) y) b=dc b off (a.eval k).cells.toList by
   rw[<-Array.foldl_toList,aaL];simp_all [AY]]
  exact m
def IA (k:TypeId) (c:Array (Nat×Operand)) (D:o.op= .build k c) (x:Nat->Option (Nat×Nat)) (b:Array Value) (p:List (Nat×Nat×Operand))
  (E: ∀y:List (Nat×Value),m.built k y=Instr.fill x b y) (F: ∀d∈b.toList,d.oneCell'=true) (L:c.toList.length=p.length)
  (P: ∀(z:Nat) (r:Nat×Operand) (h:Nat×Nat×Operand),c.toList[z]? =some r->p[z]? =some h->x r.1=some (h.1,h.2.1)/\r.2=h.2.2/\aQ r.2=true/\0<h.2.1)
  (S:bO u a j) (T:Holds u f l) (V:G ⟨m,t⟩ (.lW (b.toList.map cw) p) j f Z):bW m t o a l u f Z:=by
 obtain⟨W,w,e,C,g,i⟩:=AZ x u c.toList p b (b.toList.map cw) (λn=>Z (.agg n) f) L P S (bw.p9 u b F) (λA q=>by obtain⟨d,_,rfl⟩:=a6S.1 q;exact nZ d) V;have s:m.built k (c.map λ(v,d)=>(v,a.eval d)).toList=some W:=by rw[E,a9b];exact e
 exact .same T (by simp only[execOp,D,Sem.run_bind,run_build l k _ _ s];rfl) (.agg _ _ g C.1 C.2) i
theorem wA {b:Nat} (T:0<b): ∀(p:List Operand) (c:Nat) (k:Array Value) (d:List R),(∀h∈p,aQ h=true)->bO u a j->bw u k d->(∀r∈d,r.one=true)->(∀C∈p.map (al j),C.cells.length=b)->d.length=(c+p.length)*b->
  ∃y x,Instr.fill (λc=>some (c*b,b)) k ((p.zipIdx c).map λE=>(E.2,a.eval E.1))=some y/\bw u y x/\(∀r∈x,r.one=true)/\x=d.take (c*b)++flat (p.map (al j))
 | [],c,k,d,_,_,z,D,_,hlen=>⟨k,d,rfl,z,D,by simp[flat];grind⟩
 |h::p,c,k,d,F,G,z,D,L,hlen=>by
  have V:(al j h).cells.length=b:=L _ aaV;obtain⟨P,c2⟩:=(G.al h (F h aaV)).cells aaU;have n:(a.eval h).cells.size=b:=by rw[P.1,V]
  simp only[a6E]at hlen;have q:c*b+b<=d.length:=by grind
  obtain⟨y,x,W,e,f,g⟩:=wA T p (c+1) (dc k (c*b) (a.eval h).cells.toList) (putAt d (c*b) (al j h).cells) (λi l=>F i (by simp[l])) G (z.putAt P _ aaU) (tR D c2 _)
   (λC S=>L C (by simp at S|-;exact .inr S)) (by grind[eI])
  refine⟨y,x,?_,e,f,?_⟩
  .simp only[List.zipIdx_cons,a6Q,Instr.fill];have s:c*b+(a.eval h).cells.size<=k.size:=by have:=z.1;omega
   rw[if_neg aaW];rw[show(a.eval h).cells.zipIdx.foldl (λd (r,m)=>d.setIfInBounds (c*b+m) r) k=dc k (c*b) (a.eval h).cells.toList by
    rw[<-Array.foldl_toList,aaL];simp_all [AY]]
   exact W
  .rw[g];simp only[putAt,flat,a6Q,a7a];have t:(d.take (c*b)++(al j h).cells).length=(c+1)*b:=by rw[a7I];simp;omega
   grind
def B0 (C:TypeId) (c:Nat) (D:Array (Nat×Value)) (h:TypeId) (G:m.underlying C=some (.slice h)) (b:TypeInfo) (E:m.info? h=some b) (r:Value) (L:b.zero=some r) (V:c*b.size<=2^24) (x:Array Value) (p:x=if c*b.size=0 then #[]else r.cells)
  (F:Array Value) (y:Instr.fill (λz=>some (z*b.size,b.size)) ((Array.range (c*b.size)).map (λz=>x[z%x.size]!)) D.toList=some F) (d:World):
  (Instr.buildSlice C c D).run m d= .ok (.slice (some ⟨d.heap.size,0,none⟩) c c) (d.alloc (.cells F h)):=by
 have P: ¬(c*b.size>2^24):=aaU;have S:(sizeOf h).run m d= .ok b.size d:=by simp[sizeOf,typeInfo,E]
 have T:(zeroValue h).run m d= .ok r d:=by simp[zeroValue,typeInfo,E,L]
 unfold Instr.buildSlice;simp only[Sem.run_bind,run_underlying G,Result.andThen_ok,S];rw[if_neg P];by_cases k:c*b.size=0
 .rw[if_pos k]at p;subst p;simp only[k,if_true];rw[k]at y;rw[Sem.run_bind];simp only[Sem.run_pure,Result.andThen_ok,y];rfl
 .rw[if_neg k]at p;subst p;simp only[k,if_false];rw[Sem.run_bind];simp only[T,Result.andThen_ok];rw[Sem.run_bind];simp only[Sem.run_pure,Result.andThen_ok,y];rfl
theorem B1 (g:TypeId) (c:Nat) (S:Array (Nat×Operand)) (r:o.op= .buildSlice g c S) (x:TypeId) (i:m.underlying g=some (.slice x)) (b:TypeInfo) (M:m.info? x=some b) (D:Value) (N:b.zero=some D) (k7:D.cells.size=b.size) (k8: ∀d∈D.cells.toList,d.oneCell'=true)
  (T:0<b.size) (O:c*b.size<=2^24) (k:List Operand) (k9:S.toList=(k.zipIdx 0).map λF=>(F.2,F.1)) (E:k.length=c) (Q: ∀d∈k,aQ d=true)
  (X:bO u a j) (z:Holds u f l) (C:G ⟨m,t⟩ (.kh b.size k) j f Z):bW m t o a l u f Z:=by
 simp only[G]at C;obtain⟨n,C⟩:=C
 let fv:Array Value:=if c*b.size=0 then #[]else D.cells
 let y:Array Value:=(Array.range (c*b.size)).map (λh=>fv[h%fv.size]!);have Y: ∀d∈y.toList,d.oneCell'=true:=by
  intro d q;by_cases L:c*b.size=0
  .simp[y,L]at q
  .have l0:fv=D.cells:=if_neg L;simp only[y,a9b,a6S]at q;obtain⟨h,_,rfl⟩:=q;grind[Nat.mod_lt]
 have j9:y.size=c*b.size:=by simp[y]
 obtain⟨p,l1,k0,B,k1,V⟩:=wA T k 0 y (y.toList.map cw) Q X (bw.p9 u y Y) (λH s=>by obtain⟨d,_,rfl⟩:=a6S.1 s;exact nZ d) n (by simp[j9,E]);simp only[a9Q,a8w,a6T]at V;have k2:(S.map λ(h,d)=>(h,a.eval d)).toList=(k.zipIdx 0).map λF=>(F.2,a.eval F.1):=by simp_all
 have I:(execOp a.eval o).run m l= .ok (.value (.slice (some ⟨l.heap.size,0,none⟩) c c)) (l.alloc (.cells p x)):=by have:=B0 g c (S.map λ(h,d)=>(h,a.eval d)) x i b M D N O fv rfl p (by rw[k2];exact k0) l;simp only[execOp,r,Sem.run_bind,this];rfl
 by_cases L:k.length=0
 .rw[if_pos L]at C;have k3:c=0:=aaU;subst k3;refine .value I (b:=u.ext l.heap.size 0 p) ?_ (.dg _ _ .zero (λl2=>by rfl) rfl) C;have W:=Step.write (h9:=l.alloc (.cells p x)) z l.heap.size 0 p x f rfl rfl rfl aaV (heap_alloc_new l _) (λw _ A=>qn l _ w A) (.inl rfl)
   (a7b _) (λo v P=>by rw[z.mN]at P;cases P) (λk4 o K e=>e)
   (λo r=>by rw[z.ef]at r;cases r)
  exact W
 .rw[if_neg L]at C;have k5:p.size=c*b.size:=by rw[B.1,V,cR n];simp[E]
  have W:=Step.write (h9:=l.alloc (.cells p x)) z l.heap.size (c*b.size) p x (f.set l.heap.size (.buf b.size k.length k.length)) rfl rfl rfl aaV (heap_alloc_new l _) (λw _ A=>qn l _ w A) (.inl rfl)
   aaU (λo v P=>by rw[z.mN]at P;cases P) (λk4 o K e=>by rw[U.an _ _ K]at e;exact e)
   (λo r=>by
    rw[U.ai]at r;obtain rfl:=a6x r;refine⟨T,a7g _,?_,p,x,heap_alloc_new l _,by rw[k5,E],λo r=> ?_⟩
    .have:k.length*1<=c*b.size:=by rw[E];exact aaM _ T
     unfold maxLen;omega
    .rw[bl.p8 _ _ _ _ (by rw[E]at r;omega)];exact z.mN o)
  refine .value I W ?_ (C _ z.ef);refine .J _ _ _ _ b.size (λh=>p.getD h undef) _ _ T (by simp[E]) aaU n (λH s=>k1 H (by rw[V];exact s)) (λh l3=> ?_) (λh k6 i=> ?_) ⟨rfl,rfl,aaU⟩;simp_all [bl.p7]
  .exact((B.2 h k6 (by rw[V];exact i))).mono W.le
theorem IB (E:TypeId) (d:Nat) (z:Array (Nat×Operand)) (V:o.op= .buildSlice E d z) (r:TypeId) (W:m.underlying E=some (.slice r)) (b:TypeInfo) (e:m.info? r=some b) (p:Value) (g:b.zero=some p) (w:p.cells.size=b.size) (A: ∀c∈p.cells.toList,c.oneCell'=true)
  (F:0<b.size) (i:d*b.size<=2^24) (h:List Operand) (B:z.toList=(h.zipIdx 0).map λC=>(C.2,C.1)) (L:h.length=d) (n: ∀c∈h,aQ c=true)
  (q:bO u a j) (P:Holds u f l) (x:G ⟨m,t⟩ (.kl b.size h) j f Z):bW m t o a l u f Z:=by
 simp only[G]at x;obtain⟨H,x⟩:=x;by_cases D:h.length=0
 .rw[if_pos D]at x;refine B1 E d z V r W b e p g w A F i h B L n q P ?_;simp_all [G]
 rw[if_neg D]at x
 let fv:Array Value:=if d*b.size=0 then #[]else p.cells
 let k:Array Value:=(Array.range (d*b.size)).map (λy=>fv[y%fv.size]!);have I: ∀c∈k.toList,c.oneCell'=true:=by
  intro c S;by_cases D:d*b.size=0
  .simp[k,D]at S
  .have Y:fv=p.cells:=if_neg D;simp only[k,a9b,a6S]at S;obtain⟨y,_,rfl⟩:=S;grind[Nat.mod_lt]
 have K:k.size=d*b.size:=by simp[k]
 obtain⟨T,j9,M,N,k0,s⟩:=wA F h 0 k (k.toList.map cw) n q (bw.p9 u k I) (λO v=>by obtain⟨c,_,rfl⟩:=a6S.1 v;exact nZ c) H (by simp[K,L]);simp only[a9Q,a8w,a6T]at s;have Q:(z.map λ(y,c)=>(y,a.eval c)).toList=(h.zipIdx 0).map λC=>(C.2,a.eval C.1):=by simp_all
 have X:(execOp a.eval o).run m l= .ok (.value (.slice (some ⟨l.heap.size,0,none⟩) d d)) (l.alloc (.cells T r)):=by have:=B0 E d (z.map λ(y,c)=>(y,a.eval c)) r W b e p g i fv rfl T (by rw[Q];exact M) l;simp only[execOp,V,Sem.run_bind,this];rfl
 subst L;refine .value X (Step.new P T r _ (λO v=> ?_) ?_) (.ao _ _ _ _ F (a7g _)) (x _ P.ef)
 .simp_all
 .rw[<-s];exact N
end
section
variable  {o:Oper}{a:Act}   
theorem aX.src (T:aX u e4 (.J g N)) (V:Holds u f l) (D: ∀W∈g,W.cells.length=e) (E:Program):
  ∃x:List Value,Src E l e g.length e4 x/\x.length=(flat g).length/\(∀b c,(flat g)[b]? =some c->aX u (x.getD b Go.undef) c)/\(∀y∈flat g,y.one=true):=by
 cases T with
 |dg d cap N bZ i=>
  refine⟨[],⟨rfl,?_,?_,aaV⟩,rfl,λb c F=>by trivial,λy p=>by trivial⟩
  .cases d<;>simp[Builtin.firstCells,loadCells,loadCellsFrom]
  .cases d<;>simp[Builtin.firstCells,loadCells,loadCellsFrom]
 |J G off len cap h z xs N hk C s j m hH t i=>
  subst C;cases r:g with
  |nil=>subst r;refine⟨[],⟨rfl,?_,?_,aaV⟩,rfl,λb c F=>by trivial,λy p=>by trivial⟩<;>simp[Builtin.firstCells,loadCells,loadCellsFrom]
  |cons L w=>
   rw[<-r];have n:=(j L (by simp[r])).symm.trans (D L (by simp[r]));subst n;have C:=cR D;have p: ∀(k),(∀d,k.cell? d=l.cell? d)->(Builtin.firstCells h g.length (.slice (some ⟨G,off,none⟩) g.length cap)).run E k= .ok ((List.range (g.length*h)).map z).toArray k:=λk q=>by
    refine run_firstCells_some k h g.length ⟨G,off,none⟩ g.length cap _ aaV (λb v P=> ?_);have S:b<g.length*h:=by grind
    rw[a7d,a8P S]at P;obtain rfl:z b=v:=by simpa using P
    rw[q,hv];exact V.ro _ _ _ (hH b S)
   refine⟨(List.range (g.length*h)).map z,⟨rfl,p l (λ_=>rfl),p l.drew (λ_=>rfl),aaV⟩,by simp[C],λb c F=> ?_,m⟩;grind
theorem ph (b c:List R):flat (b++c)=flat b++flat c:=by simp[flat]
def ja (b c:Operand) (d h:TypeId) (k:o.op= .call {callee:= .builtin .append,args:= #[b,c],argTypes:= #[d,h]}) {v:Value}
  (p:(Builtin.append_ #[d,h] o.type #[a.eval b,a.eval c]).run m l= .ok v h9):(execOp a.eval o).run m l= .ok (.value v) h9:=by
 simp[execOp,k,resolve,invoke,builtin,p]
theorem IC (n S:Operand) (r:TypeId) (p:o.op= .call {callee:= .builtin .append,args:= #[n,S],argTypes:= #[r,r]}) (k:TypeId) (x:m.underlying r=some (.slice k)) (b:TypeInfo) (O:m.info? k=some b) (H:Value) (l3:b.zero=some H)
  (a14:H.cells.size=b.size) (Q:0<b.size) (a15:aQ n=true) (a16:aQ S=true) (n9:bO u a j) (V:Holds u f l) (y:G ⟨m,t⟩ (.app b.size b.bytes n S) j f Z):bW m t o a l u f Z:=by
 have g:=n9.al n a15;have a00:=n9.al S a16;simp only[G]at y;split at y
 case h_2=>trivial
 rename_i d I h a62 K a18;rw[K]at g;rw[a18]at a00;obtain⟨a01,l4,a19,k8,y⟩:=y;obtain⟨z,q,a63,a27,a29⟩:=a00.src V l4 m;have a30: ∀F∈z,F.oneCell'=true:=λF x=>by
  obtain⟨c,L⟩:=a9p x;have a02:c<(flat h).length:=by grind
  have:=a27 c _ (a6y a02);rw[a7z,L]at this;exact this.nX (a29 _ (a6Z a02))
 have l5:=q.size;generalize X:a.eval n=a03 at g;have newRow: ∀(k0:List Value) (W C:Nat) (s:List R),s.length=W->k0.length=W*b.size->(∀k∈s,k.cells.length=b.size)->(∀c F,(flat s)[c]? =some F->aX u (k0.getD c undef) F)->(∀E∈flat s,E.one=true)->
   W+h.length<=C->C<=maxLen-> ∀k9:U,k9.sub f->
   let i:=k0.toArray++z.toArray++Builtin.zeroCells H.cells (C -(W+h.length))
   ∃k1,Step u f l k1 (k9.set l.heap.size (.buf b.size (W+h.length) C)) (l.drew.alloc (.cells i k))/\aX k1 (.slice (some ⟨l.heap.size,0,none⟩) (W+h.length) C) (.J (s++h) (.buf l.heap.size C)):=by
  intro k0 W C s l6 k2 a04 a65 a05 Y a34 k9 a36 i;have l7:i.size=C*b.size:=by simp only[i,Array.size_append,List.size_toArray,size_zeroCells,a14,k2,l5,<-a7I];congr 1;omega
  have l0:i.toList=k0++z++(Builtin.zeroCells H.cells (C -(W+h.length))).toList:=by simp[i]
  have l1:(flat (s++h)).length=(W+h.length)*b.size:=by rw[cR (d:=b.size)];(simp[l6]);grind
  have a38: ∀c F,(flat (s++h))[c]? =some F->aX u (i.getD c undef) F:=λc F x=>by
   rw[ph]at x;have a06:(flat s).length=W*b.size:=by rw[cR a04,l6]
   rw[a7w,<-a8j,l0];grind
  have a68:(W+h.length)*b.size<=C*b.size:=a6O _ Y;have a42:=V.drew;have e:=Step.write (h9:=l.drew.alloc (.cells i k)) a42 l.heap.size ((W+h.length)*b.size) i k (k9.set l.heap.size (.buf b.size (W+h.length) C)) rfl rfl rfl aaV (heap_alloc_new l.drew _) (λj9 _ l8=>qn l.drew _ j9 l8) (.inl rfl)
   aaU (λo v g=>by rw[V.mN]at g;cases g) (λl9 o k3 k4=>by rw[U.an _ _ k3]at k4;exact a36 l9 o k4)
   (λo p=>by
    rw[U.ai]at p;obtain rfl:=a6x p;refine⟨Q,Y,a34,i,k,heap_alloc_new l.drew _,l7,λo p=> ?_⟩;rw[bl.p8 _ _ _ _ aaU];exact V.mN o)
  refine⟨_,(Step.drew V).trans e,?_⟩;refine .J _ _ _ _ b.size (λc=>i.getD c undef) _ _ Q (by simp[l6]) Y (λk K=>by grind) (λE n0=>by
   grind[ph]) (λc L=> ?_) (λc F x=>(a38 c F x).mono e.le) ⟨rfl,rfl,rfl⟩
  rw[a7c,bl.p7 _ _ _ _ L];simp[show c<i.size by omega]
 cases I with
 |any=>trivial
 |nil=>
  obtain⟨rfl,y⟩:=y;have n1:a03= .slice none 0 0:=by
   cases g with
   |dg w C I bZ p=>simp only[Own.lT]at p;subst p;rw[bZ rfl]
   |J j9 off len C n2 A d I Q l1 Y l4 a43 hH a07 p=>trivial
  subst n1;by_cases M:h= []
  .subst M;rw[if_pos rfl]at y;have a08:=a6F (by trivial);refine .same V (ja n S r r p ?_) (.dg _ _ .nil (λ_=>rfl) rfl) y;rw[X];have k5:=q.len;have k6:=q.cells;simp only[a6G]at k5 k6;simp[Builtin.append_,run_underlying x,sizeOf,typeInfo,O,k5,k6]
  .rw[if_neg M]at y;have a47:=a7B.2 M;have B:=qp l r r o.type k b H x _ x (.inl ⟨k,rfl⟩) O l3 none 0 0 [] aaV ab0 h.length (a.eval S) z q aaU (by simp only[a6G]at k8;omega) (by trivial);simp only[a7c]at B;have n3:=grownCap_ge l h.length 0 k;have k7:=grownCap_le_maxLen l h.length 0 k (by unfold maxLen;simp only[a6G]at k8;omega);obtain⟨k1,e,N⟩:=newRow [] 0 (grownCap l h.length 0 k) [] rfl aaV (λk K=>by simp at K) (λc F x=>by trivial) (λE n0=>by trivial) aaU k7 f (λ_ _ n4=>n4);simp only[a7c,a6T]at e N;refine .value (ja n S r r p (by rw[X];exact B)) e N (y _ _ V.ef)
 |zero=>
  obtain⟨rfl,y⟩:=y;have n1: ∃w,a03= .slice w 0 0:=by
   cases g with
   |dg w C I bZ p=>simp only[Own.lT]at p;subst p;simp
   |J j9 off len C n2 A d I Q l1 Y l4 a43 hH a07 p=>trivial
  obtain⟨w,rfl⟩:=n1;by_cases M:h= []
  .subst M;rw[if_pos rfl]at y;have a08:=a6F (by trivial);refine .same V (ja n S r r p (v:= .slice w 0 0) ?_) (.dg _ _ .zero (λ_=>rfl) rfl) y;rw[X];have k5:=q.len;have k6:=q.cells;simp only[a6G]at k5 k6;subst a08;cases w<;>simp[Builtin.append_,run_underlying x,sizeOf,typeInfo,O,k5,k6,storeCells]
  .rw[if_neg M]at y;have a47:=a7B.2 M;have B:=qp l r r o.type k b H x _ x (.inl ⟨k,rfl⟩) O l3 w 0 0 [] aaV (by cases w<;>simp[Builtin.firstCells,loadCells,loadCellsFrom]) h.length (a.eval S) z q aaU (by simp only[a6G]at k8;omega) (by trivial);simp only[a7c]at B;have n3:=grownCap_ge l h.length 0 k;have k7:=grownCap_le_maxLen l h.length 0 k (by unfold maxLen;simp only[a6G]at k8;omega);obtain⟨k1,e,N⟩:=newRow [] 0 (grownCap l h.length 0 k) [] rfl aaV (λk K=>by simp at K) (λc F x=>by trivial) (λE n0=>by trivial) aaU k7 f (λ_ _ n4=>n4);simp only[a7c,a6T]at e N;refine .value (ja n S r r p (by rw[X];exact B)) e N (y _ _ V.ef)
 |buf P E=>
  obtain⟨a09,y⟩:=y;obtain⟨_,a69,a48,D,T,n5,a10,a71⟩:=V.db P _ a09;cases g with
  |dg w C I bZ p=>trivial
  |J j9 off len C n2 A d I a73 l1 Y a04 a05 hH a07 p=>
   obtain⟨rfl,rfl,rfl⟩:=p;subst l1;have a74:d.length*n2=d.length*b.size:=by
    cases a81:d with
    |nil=>simp
    |cons gH a83=>simp_all
   have a11: ∀c,c<d.length*b.size->u P c=some (A c):=λc L=>by
    simp_all
   have a52: ∀c,c<d.length*b.size->D[c]? =some (A c):=λc L=>by
    have:=V.ro _ _ _ (a11 c L);grind[cell_of_row]
   have a84:d.length*b.size<=D.size:=by rw[a10];grind
   by_cases l2:d.length+h.length<=E
   .
    have a13:d.length*b.size+z.length<=D.size:=by rw[l5,a10,<-a7I];exact a6O _ l2
    have B:=AO l r r o.type k b x _ x (.inl ⟨k,rfl⟩) O P d.length E D T _ n5 (wi _) h.length (a.eval S) z q a30 l2 a13;have l7:(dc D (d.length*b.size) z).size=D.size:=by simp[dc];omega
    have l0:(dc D (d.length*b.size) z).toList=D.toList.take (d.length*b.size)++z++D.toList.drop (d.length*b.size+z.length):=by rfl
    have a86: ∀c,c<d.length*b.size->(dc D (d.length*b.size) z)[c]? =some (A c):=λc L=>by
     rw[<-a8j,l0,a6N,a8r aaW,a7D L,a8j];exact a52 c L
    have a06:=cR a01;have e:=Step.write (h9:=l.setRow P (dc D (d.length*b.size) z)) V P ((d.length+h.length)*b.size) (dc D (d.length*b.size) z) T ((f.del P).set P (.buf b.size (d.length+h.length) E)) rfl rfl rfl aaV (setRow_heap l P D _ T _ n5)
     (λj9 _ l8=>setRow_other l P j9 _ l8) (.inr (by simp[a09])) (by rw[l7,a7I,<-l5];exact a13)
     (λo v g=>by
      grind)
     (λl9 o k3 k4=>by rw[U.an _ _ k3,U.eH _ k3]at k4;exact k4)
     (λo p=>by
      rw[U.ai]at p;obtain rfl:=a6x p;refine⟨Q,l2,a48,_,T,setRow_heap l P D _ T _ n5,aaU,λo p=> ?_⟩;grind[bl.p8,Nat.le_trans,Nat.mul_le_mul_right])
    refine .value (ja n S r r p (by rw[X];exact B)) e ?_ (y P E (.inl rfl));refine .J _ _ _ _ b.size (λc=>(dc D (d.length*b.size) z).getD c undef) _ _ Q aaV l2 (λk K=>by grind) (λE n0=>by
     grind[ph]) (λc L=> ?_) (λc F x=> ?_) ⟨rfl,rfl,rfl⟩
    .rw[a7c,bl.p7 _ _ _ _ L];have:c<(dc D (d.length*b.size) z).size:=by grind
     simp[this]
    .refine aX.mono e.le ?_;rw[ph]at x;by_cases L:c<d.length*b.size
     .rw[a8r aaU]at x;simp_all
     .rw[a9s aaU,a06]at x;have a56:c - d.length*b.size<z.length:=by grind
      have a57:(D.toList.take (d.length*b.size)).length=d.length*b.size:=aaW;rw[a7w,<-a8j,l0,a6N,a9s aaU,a57,a8r a56];grind
   .
    have k2:((List.range (d.length*b.size)).map A).length=d.length*b.size:=aaV;have a61:(Builtin.firstCells b.size d.length (.slice (some ⟨P,0,none⟩) d.length E)).run m l.drew= .ok ((List.range (d.length*b.size)).map A).toArray l.drew:=by
     refine run_firstCells_some l.drew b.size d.length ⟨P,0,none⟩ d.length E _ k2 (λc v g=> ?_);have L:c<d.length*b.size:=by grind
     rw[a7d,a8P L]at g;obtain rfl:A c=v:=by simpa using g
     rw[hv,a7c];exact V.ro _ _ _ (a11 c L)
    have B:=qp l r r o.type k b H x _ x (.inl ⟨k,rfl⟩) O l3 (some ⟨P,0,none⟩) d.length E _ k2 a61 h.length (a.eval S) z q aaU aaU a19;have n3:=grownCap_ge l (d.length+h.length) E k;have k7:=grownCap_le_maxLen l (d.length+h.length) E k (by unfold maxLen;omega);obtain⟨k1,e,N⟩:=newRow ((List.range (d.length*b.size)).map A) d.length (grownCap l (d.length+h.length) E k) d rfl k2 a01 (λc F x=>by
      grind[cR,List.getElem?_eq_some_iff,List.getD]) a05 n3 k7 (f.del P) (λl9 o k3=>by
      grind[U.iB,U.eH])
    exact .value (ja n S r r p (by rw[X];exact B)) e N (y _ _ (.inr V.ef))
theorem wB (G:aX u e4 n) (S:Holds u f l) (b:bV f e n=some (i,g)) (D:Program):
  ∃p:List Value,Src D l e i e4 p/\p.length=g.length/\(∀k r,g[k]? =some r->aX u (p.getD k Go.undef) r)/\(∀z∈g,z.one=true):=by
 have q: ∀(y d c x) (h),f.read y=some h->d+c*e<=h.length->
   ∃p:List Value,Src D l e c (.slice (some ⟨y,d,none⟩) c x) p/\p.length=((h.drop d).take (c*e)).length/\(∀k r,((h.drop d).take (c*e))[k]? =some r->aX u (p.getD k Go.undef) r)/\(∀z∈(h.drop d).take (c*e),z.one=true):=by
  intro y d c x h E L;obtain⟨s,P,T,A,B,V⟩:=S.read E;have H:=V.1;have t:((P.toList.drop d).take (c*e)).length=c*e:=aaW;have W: ∀(F),(∀j,F.cell? j=l.cell? j)->(Builtin.firstCells e c (.slice (some ⟨y,d,none⟩) c x)).run D F= .ok ((P.toList.drop d).take (c*e)).toArray F:=λF I=>by
   grind[run_firstCells_some,List.getElem?_eq_some_iff,hv,cell_of_row,List.getElem?_take_of_lt]
  refine⟨(P.toList.drop d).take (c*e),⟨rfl,W l (λ_=>rfl),W l.drew (λ_=>rfl),t⟩,aaW,λk r m=> ?_,λz C=>s z (a7e (a6M C))⟩;have v:k<c*e:=by grind
  rw[a7D v,a9B]at m;have:=V.2 (d+k) r m;grind[List.getElem?_eq_some_iff,List.getElem?_take_of_lt,Array.getD_eq_getD_getElem?]
 unfold bV at b;split at b
 .rename_i K M;split at b
  case isFalse=>cases b
  rename_i N;simp only[a6K,a7J]at b;obtain⟨rfl,rfl⟩:=b;exact G.src S (by simp_all) D
 .split at b
  case h_2=>cases b
  rename_i h E;split at b
  case isFalse=>cases b
  rename_i C;simp only[a6K,a7J]at b;obtain⟨rfl,rfl⟩:=b;obtain⟨rfl,L⟩:=C;cases G with
  |ao y c x e hk w=>have O:=λx=>q _ 0 _ x h E (by rw[a7c];exact L);simp_all
 .split at b
  case h_2=>cases b
  rename_i h E;split at b
  case isFalse=>cases b
  rename_i C;simp only[a6K,a7J]at b;obtain⟨rfl,rfl⟩:=b;obtain⟨rfl,L⟩:=C;cases G with
  |bE y d c x e hk w=>simp_all
 .cases b
def ID (z:aX u e4 n) (F:Holds u f l) (c:mY f e n=some (i,g)) (r:Program):
  ∃x:List Value,Src r l e i e4 x/\x.length=g.length/\(∀h k,g[h]? =some k->aX u (x.getD h Go.undef) k)/\(∀C∈g,C.one=true):=by
 unfold mY at c;split at c
 .rename_i b;split at c
  case isFalse=>cases c
  rename_i G;simp only[a6K,a7J]at c;obtain⟨rfl,rfl⟩:=c;subst G;obtain rfl:=z.dV;have P:b.data.toList.length=b.size:=aaV;have D: ∀y:World,(Builtin.firstCells 1 b.size (.string b)).run r y= .ok (b.data.toList.map λd=>Value.int .u8 d.toNat).toArray y:=λy=>by
   simp only[Builtin.firstCells,Sem.run_pure];have:b.extract 0 b.size=b:=aaV;rw[this];congr 1;apply aaE;simp
  refine⟨b.data.toList.map λd=>Value.int .u8 d.toNat,⟨rfl,D l,D l.drew,aaV⟩,aaV,λh k p=> ?_,λC L=> ?_⟩
  .rw[a7d]at p;rw[a7z,a7d];cases E:b.data.toList[h]? with
   |none=>simp[E]at p
   |some d=>
    rw[E]at p;obtain rfl:ak d=k:=by simpa using p
    exact .v _ rfl
  .obtain⟨d,_,rfl⟩:=a6S.1 L;rfl
 .exact wB z F c r
theorem B2 {d:Array Value} (k: ∀b∈d.toList,b.oneCell'=true) (h:Nat): ∀b∈(Builtin.zeroCells d h).toList,b.oneCell'=true:=by intro b c;unfold Builtin.zeroCells at c;simp only[a9b,a6S]at c;obtain⟨p,r,rfl⟩:=c;grind[Nat.eq_zero_or_pos,Nat.mod_lt]
theorem B3 (z C:Operand) (D E:TypeId) (I:TypeDesc) (Y:m.underlying E=some I) (j9:(∃a09,I= .slice a09)\/I= .string) (e:o.op= .call {callee:= .builtin .append,args:= #[z,C],argTypes:= #[D,E]}) (r:TypeId) (K:m.underlying D=some (.slice r)) (c:TypeInfo) (k0:m.info? r=some c) (M:Value) (n9:c.zero=some M)
    (a30:M.cells.size=c.size) (a34: ∀z∈M.cells.toList,z.oneCell'=true) (k1:0<c.size) (a36:aQ z=true) (a38:aQ C=true) (a10:bO u a j) (P:Holds u f l) (h:G ⟨m,t⟩ (.lY c.size c.bytes z C) j f Z):bW m t o a l u f Z:=by
  have A:=a10.al z a36;have a42:=a10.al C a38;simp only[G]at h;split at h
  case h_2=>trivial
  rename_i k B a43;obtain⟨g,N,a00,a47,n1⟩:=ID a42 P a43 m;have a11: ∀n2∈g,n2.oneCell'=true:=λn2 K=>by
    obtain⟨S,a01⟩:=a9p K;have a13:S<B.length:=by grind
    have:=a47 S _ (a6y a13);rw[a7z,a01]at this;exact this.nX (n1 _ (a6Z a13))
  have a14:=N.size;have a02:bw u g.toArray B:=bw.dU.2 ⟨by trivial,λS a15 n2 a84 a86=>by
    grind⟩
  generalize k2:a.eval z=a15 at A;have newRow: ∀(n3:List Value) (b d:Nat) (F:List R),n3.length=b*c.size->bw u n3.toArray F->(∀i∈F,i.one=true)->b+k<=d->
      let y:=n3.toArray++g.toArray++Builtin.zeroCells M.cells (d -(b+k))
      ∃n:List R,n.length=(d -(b+k))*c.size/\Step u f l u (f.set l.heap.size (.cells (F++B++n))) (l.drew.alloc (.cells y r)):=by
    intro n3 b d F O k8 k3 k9 y;have a48:=B2 a34 (d -(b+k));have V:=bw.p9 u _ a48;refine⟨(Builtin.zeroCells M.cells (d -(b+k))).toList.map cw,by simp[size_zeroCells,a30],?_⟩;refine(Step.drew P).trans (Step.new P.drew y r _ (λi W=> ?_) ?_)
    . simp only[a6L,a6S]at W
      rcases W with (W|W)|⟨z,_,rfl⟩
      . exact k3 i W
      . exact n1 i W
      . exact nZ z
    . rw[bw.dU]at k8 a02 V|-
      grind
  split at h
  . rename_i a52 n4 l0
    rw[l0]at A;obtain⟨rfl,a16,H,k4,h⟩:=h;have a56: ∃Q,a15= .slice Q 0 0/\(n4= .nil->Q=none):=by
      cases A with
      |dg Q d n4 bZ e=>
        rcases a16 with rfl|rfl
        . simp only[Own.lT]at e;simp[*]
        . simp only[Own.lT]at e;simp[*]
      |J a88 L len d a18 a89 a52 n4 k1 hlen k9 a90 k3 hH a92 e=>rcases a16 with rfl|rfl<;>exact e.elim
    obtain⟨Q,rfl,a94⟩:=a56;by_cases a19:k=0
    . subst a19
      rw[if_pos rfl]at h;have a57:g= []:=a6F (by simpa using a14);subst a57;have a61:aX u (.slice Q 0 0) (.J [] n4):=by omega
      refine .same P (ja z C D E e ?_) a61 h;rw[k2];have a62:=N.len;have a63:=N.cells;rcases j9 with ⟨a09,rfl⟩|rfl<;>cases Q<;>simp[Builtin.append_,run_underlying K,run_underlying Y,sizeOf,typeInfo,k0,a62,a63,storeCells]
    . rw[if_neg a19]at h
      have V:=qp l D E o.type r c M K I Y j9 k0 n9 Q 0 0 [] aaV (by cases Q<;>simp[Builtin.firstCells,loadCells,loadCellsFrom]) k (a.eval C) g N aaU aaU (by simpa using H);simp only[a7c]at V;have s:=grownCap_ge l k 0 r;have l1:=grownCap_le_maxLen l k 0 r (by unfold maxLen;omega);obtain⟨n,k5,k6⟩:=newRow [] 0 (grownCap l k 0 r) [] aaV ⟨rfl,λS n2 a65=>by simp at a65⟩ (λi W=>by simp at W) aaU;simp only[a7c,a6T]at k6 k5;exact .value (ja z C D E e (by rw[k2];exact V)) k6 (.ao _ _ _ _ k1 s) (h _ _ n P.ef s l1 k5)
  . rename_i x b d a27 l0
    rw[l0]at A;have a29: ∀(p:List R) (a03:List R->bs),f.read x=some p->a27=c.size->p.length=d*c.size->(b+k)*c.bytes<=140737488355328->b+k<=9223372036854775807->
        (∀(F:List R) (k7:Array Value),bw u k7 F->(∀i∈F,i.one=true)->b*c.size+F.length<=p.length-> ∃y T l2,l.heap[x]? =some (.cells y T l2)/\(∀S,S<y.size-> ¬(l2.1<=S/\S<l2.2))/\y.size=p.length/\Step u f l u (f.set x (a03 (putAt p (b*c.size) F))) (l.setRow x (dc y (b*c.size) k7.toList)))->
        (if b+k<=d then Z (.ao x (b+k) d c.size) (f.set x (a03 (putAt p (b*c.size) B)))
           else∀a04 n5 n,f a04=none->b+k<=n5->n5<=maxLen->n.length=(n5 -(b+k))*c.size->Z (.ao a04 (b+k) n5 c.size) (f.set a04 (.cells (p.take (b*c.size)++B++n))))->bW m t o a l u f Z:=by
      clear h;intro p a03 w l3 X H k4 a68 h;subst l3;obtain⟨k3,y,T,l2,a69,l4⟩:=P.read w;have a71:=l4.1;cases A with
      |ao x b d a18 a73 k9=>
        have a74:b*c.size<=p.length:=by rw[X];exact a6O _ k9
        by_cases q:b+k<=d
        . rw[if_pos q]at h
          have l5:b*c.size+B.length<=p.length:=by rw[<-a00,a14,X,<-a7I];exact a6O _ q
          obtain⟨l6,l7,a81,l8,a83,l9,n0⟩:=a68 B g.toArray a02 n1 l5;have V:=AO l D E o.type r c K I Y j9 k0 x b d l6 l7 a81 l8 a83 k (a.eval C) g N a11 q (by rw[l9,a00];exact l5);exact .value (ja z C D E e (by rw[k2];exact V)) n0 (.ao _ _ _ _ k1 q) h
        . rw[if_neg q]at h
          have O:(y.toList.take (b*c.size)).length=b*c.size:=aaW;have a05:(Builtin.firstCells c.size b (.slice (some ⟨x,0,none⟩) b d)).run m l.drew= .ok (y.toList.take (b*c.size)).toArray l.drew:=by
            refine run_firstCells_some l.drew c.size b ⟨x,0,none⟩ b d _ O (λS v A=> ?_);have a01:S<b*c.size:=by grind
            rw[hv,a7c];show l.cell? _= _;grind[cell_of_row,List.getElem?_take_of_lt]
          have V:=qp l D E o.type r c M K I Y j9 k0 n9 (some ⟨x,0,none⟩) b d _ O a05 k (a.eval C) g N aaU aaU H;have s:=grownCap_ge l (b+k) d r;have l1:=grownCap_le_maxLen l (b+k) d r (by unfold maxLen;omega);have k8:bw u (y.toList.take (b*c.size)).toArray (p.take (b*c.size)):=by rw[bw.dU]at l4|-;grind
          obtain⟨n,k5,k6⟩:=newRow _ b (grownCap l (b+k) d r) (p.take (b*c.size)) O k8 (λi W=>k3 i (a6M W)) s;exact .value (ja z C D E e (by rw[k2];exact V)) k6 (.ao _ _ _ _ k1 s) (h _ _ n P.ef s l1 k5)
    split at h
    . rename_i p w
      obtain⟨l3,X,H,k4,h⟩:=h;refine a29 p .cells (by simp[U.read,w]) l3 X H k4 (λF k7 a06 a07 a08=> ?_) h;obtain⟨l6,l7,l8,l9,n0⟩:=Step.store P w (b*c.size) F k7 a06 a07 a08;grind
    . rename_i p w
      obtain⟨l3,X,H,k4,h⟩:=h;refine a29 p .eP (by simp[U.read,w]) l3 X H k4 (λF k7 a06 a07 a08=> ?_) h;obtain⟨l6,l7,l8,l9,n0⟩:=Step.HX P w (b*c.size) F k7 a06 a07 a08;grind
    . trivial
  . rename_i x L b d a27 l0
    rw[l0]at A;split at h
    case h_2=>trivial
    rename_i p w;obtain⟨rfl,X,H,k4,h⟩:=h;obtain⟨k3,y,T,l2,a69,l4⟩:=P.read (l:=x) (p:=p) (by simp[U.read,w]);have a71:=l4.1;cases A with
    |bE x L b d a18 a73 k9=>
      have a74:b*c.size<=d*c.size:=a6O _ k9;by_cases q:b+k<=d
      . rw[if_pos q]at h
        have l5:L+b*c.size+B.length<=p.length:=by have:=a6O c.size q;grind
        obtain⟨l6,l7,l8,l9,n0⟩:=Step.store P w (L+b*c.size) B g.toArray a02 n1 l5;have V:=I0 l D E o.type r c K I Y j9 k0 x L b d l6 l7 _ l8 (wi _) k (a.eval C) g N a11 q (by rw[l9,a00];exact l5);exact .value (ja z C D E e (by rw[k2];exact V)) n0 (.bE _ _ _ _ _ k1 q) h
      . rw[if_neg q]at h
        have O:((y.toList.drop L).take (b*c.size)).length=b*c.size:=aaW;have a05:(Builtin.firstCells c.size b (.slice (some ⟨x,L,none⟩) b d)).run m l.drew= .ok ((y.toList.drop L).take (b*c.size)).toArray l.drew:=by
          refine run_firstCells_some l.drew c.size b ⟨x,L,none⟩ b d _ O (λS v A=> ?_);have a01:S<b*c.size:=by grind
          rw[hv];show l.cell? _= _;grind[cell_of_row,List.getElem?_take_of_lt]
        have V:=qp l D E o.type r c M K I Y j9 k0 n9 (some ⟨x,L,none⟩) b d _ O a05 k (a.eval C) g N aaU aaU H;have s:=grownCap_ge l (b+k) d r;have l1:=grownCap_le_maxLen l (b+k) d r (by unfold maxLen;omega);have k8:bw u ((y.toList.drop L).take (b*c.size)).toArray ((p.drop L).take (b*c.size)):=by rw[bw.dU]at l4|-;grind
        obtain⟨n,k5,k6⟩:=newRow _ b (grownCap l (b+k) d r) ((p.drop L).take (b*c.size)) O k8 (λi W=>k3 i (a7e (a6M W))) s;exact .value (ja z C D E e (by rw[k2];exact V)) k6 (.ao _ _ _ _ k1 s) (h _ _ n P.ef s l1 k5)
  . trivial
end
variable{b0:Type}
section
variable  {o:Oper}{a:Act}   
def U.set_set (c:U) (b:Nat) (h d:bs):(c.set b h).set b d=c.set b d:=by funext k;simp only[U.set];split<;>rfl
theorem IE (c:TypeId) (b:Operand) (r:o.op= .box c b) (x:aQ b=true) (y:bO u a j) (d:Holds u f l) (h:G ⟨m,t⟩ (.la c b) j f Z):bW m t o a l u f Z:=by obtain⟨z,C⟩:=(y.al b x).cells h.1;have k:=Step.new d (a.eval b).cells c _ C z;obtain⟨D,p⟩:=Step.freeze k.holds (U.ai f l.heap.size (.cells (al j b).cells));rw[U.set_set]at p;refine .value ?_ (k.trans p) (.ptr _ _) (h.2 _ d.ef);simp[execOp,r,Instr.box,newVar,newRow]
theorem IF (p:TypeId) (c:Operand) (d h:Option Operand) (y:o.op= .slice p c d h none) (r:Nat) (x:TypeId) (z:m.underlying p=some (.array r x)) (k:Nat) (C:(m.info? x).map (·.size)=some k) (D:0<k) (E:aQ c=true) (F:d.all aQ=true)
  (L:h.all aQ=true) (P:bO u a j) (S:Holds u f l) (b:G ⟨m,t⟩ (.kj k r c d h) j f Z):bW m t o a l u f Z:=by
 refine AX p c d h y r x z k C D true E F L P S ?_;simp only[G]at b|-;split at b
 case h_2=>trivial
 rename_i V W e;split at b
 case h_2=>trivial
 refine⟨b.1,b.2.1,b.2.2.1,?_⟩;have T:=b.2.2.2;split at T
 case h_2=>trivial
 simp_all [U.read,AW]
theorem B4 (d:Bool) (D:IntKind) (b c:Operand) (E:Array TypeId) (k:o.op= .call {callee:= .builtin (if d then .max else .min),args:= #[b,c],argTypes:=E}) (F:aQ b=true) (L:aQ c=true) (p:bO u a j) (r:Holds u f l) (h:G ⟨m,t⟩ (.lX d D b c) j f Z):bW m t o a l u f Z:=by
 have x:=p.al b F;have y:=p.al c L;simp only[G]at h;split at h
 case h_2=>trivial
 rename_i T V W e P S;rw[P]at x;rw[S]at y;have z:=x.dV;have C:=y.dV;obtain⟨rfl,g⟩:=h;cases d
 .refine .same r ?_ (.v _ rfl) (by trivial);simp only[execOp,k,resolve,invoke,builtin,a7H,if_false,Sem.run_bind,Sem.run_pure,Result.andThen_ok,List.map_toArray,a6Q,a7W,z,C,run_min_int2];grind
 .refine .same r ?_ (.v _ rfl) (by trivial);simp only[execOp,k,resolve,invoke,builtin,if_true,Sem.run_bind,Sem.run_pure,Result.andThen_ok,List.map_toArray,a6Q,a7W,z,C,run_max_int2];grind
def B5: ∀ {h:List R}{d:List UInt8},bytesOf h=some d->h=d.map ak
 | [],d,b=>by simp only[bytesOf,a6K]at b;subst b;rfl
 |r::h,d,b=>by
  simp only[bytesOf]at b;split at b
  case h_2=>cases b
  rename_i x aV c k;obtain rfl:=a6x b;rw[B5 k,a6Q];congr 1;unfold byteOf at c;split at c
  .rename_i p;split at c
   .rename_i y;obtain rfl:=a6x c;simp only[ak];congr 2;have:p.toNat<256:=aaU;simp[a8n this];omega
   .cases c
  .cases c
theorem rW (b:List UInt8):flat (b.map ak)=b.map ak:=by
 induction b with
 |nil=>rfl
 |cons c b ih=>simp only[flat,a6Q,a7a]at ih|-;rw[ih];rfl
theorem IG (d h:TypeId) (k:Operand) (w:o.op= .convert d h k) (r:TypeId) (E:m.underlying d=some (.slice r)) (F:m.underlying r=some (.int .u8)) (L:m.underlying h=some .string) (A:aQ k=true) (B:bO u a j) (W:Holds u f l) (z:G ⟨m,t⟩ (.qx k) j f Z):bW m t o a l u f Z:=by
 have C:=B.al k A;simp only[G]at z;split at z
 case h_2=>trivial
 rename_i H e I;rw[I]at C;split at z
 case h_2=>trivial
 rename_i b K;have M:=B5 K;subst M;generalize P:a.eval k=x at C;have S: ∀x,(convert d h x).run m l= .ok (.string ⟨b.toArray⟩) l->a.eval k=x->bW m t o a l u f Z:=λx N O=>
  .same W (by simp[execOp,w,O,N]) (.v _ rfl) z
 cases T:b with
 |nil=>
  subst T;cases C with
  |dg D c e bZ Q=>
   refine S _ ?_ P;rw[run_convert_bytes_string l d h r D 0 c E F L];cases D with
   |none=>simp[Conv.bytesToString];rfl
   |some D=>have:=run_bytesToString (P:=m) l D 0 c [] ab0;rw[this];rfl
  |J y V len c g i H e X hlen Y k7 j9 n q Q=>refine S _ ?_ P;subst hlen;rw[run_convert_bytes_string l d h r _ _ c E F L];have:=run_bytesToString (P:=m) l ⟨y,V,none⟩ 0 c [] ab0;simp only[a7W,a6G];rw[this];rfl
 |cons k0 k8=>
  obtain⟨y,V,c,g,i,k1,X,Y,k2,j9,n,q,_⟩:=C.wx (by rw[T];simp);have k3:g=1:=by have:=k2 (ak k0) (by rw[T];simp);rw[<-this];rfl
  subst k3;refine S x ?_ P;rw[k1];have k9:=run_convert_bytes_arg l d r E F y V (b.map ak).length c (b.map λy=>(y.toNat)) aaV (λp k4=>by
   have s:p<b.length:=by simpa using k4
   have k5:=W.ro _ _ _ (n p aaU);rw[k5];have v:=q p (ak b[p]) (by rw[rW];simp[s]);have k6:i p= .int .u8 (b[p].toNat):=by unfold ak at v;exact v.dV
   rw[k6];simp[s]) h L
  simp_all [strOfNums,a8i]
theorem wC {p:Type} (b:List p): ∀(d c:Nat),c<d*b.length->(List.replicate d b).flatten[c]? =b[c%b.length]?
 |0,c,h=>by simp at h
 |d+1,c,h=>by
  rw[a8O,a8p];by_cases k:c<b.length
  .rw[a8r k,a8n k]
  .rw[a9s aaU,wC b d (c - b.length) (by rw[a9R]at h;omega)];grind[Nat.mod_eq_sub_mod]
theorem lk (b:List b0) (c:Nat):(List.replicate c b).flatten.length=c*b.length:=by simp
theorem IH (y:TypeId) (c k:Operand) (W:o.op= .makeSlice y c k) (p:TypeId) (e:m.underlying y=some (.slice p)) (b:TypeInfo) (g:m.info? p=some b) (d:Value) (i:b.zero=some d) (r:d.cells.size=b.size) (j9: ∀c∈d.cells.toList,c.oneCell'=true) (D:0<b.size)
  (n:aQ c=true) (q:aQ k=true) (E:bO u a j) (F:Holds u f l) (z:G ⟨m,t⟩ (.kk b.size b.bytes (d.cells.toList.map cw) c k) j f Z):bW m t o a l u f Z:=by
 have L:=E.al c n;have P:=E.al k q;simp only[G]at z;split at z
 case h_2=>trivial
 rename_i s h v k0 w A;rw[w]at L;rw[A]at P;have B:=L.dV;have H:=P.dV;obtain⟨rfl,I,K,M,N⟩:=z;have O:=run_make l y p b d e g i s v h h I (aaq _) (by rw[Int.mul_comm];exact M) K;have Q:bw u (madeCells d.cells (h.toNat*b.size)) (List.replicate h.toNat (d.cells.toList.map cw)).flatten:=by
  have S:(d.cells.toList.map cw).length=b.size:=by simp[r]
  refine bw.dU.2 ⟨by simp[size_madeCells,r],λT c k1 x X=> ?_⟩;have V:T<h.toNat*b.size:=by grind[List.getElem?_eq_some_iff,lk]
  rw[wC _ _ _ (by rw[S];exact V),S,a7d]at X;rw[a8j]at x;have k2:T%b.size<d.cells.size:=by rw[r];exact a8E _ D
  simp only[madeCells,r]at x;rw[Array.getElem?_map]at x;simp only[aaF,V,if_true,a7F,a6K]at x;grind[Array.getElem?_eq_getElem,Option.some.injEq,aX.cw]
 refine .value (by simp[execOp,W,B,H,O]) (Step.new F _ p _ (λk3 C=> ?_) Q) (.ao _ _ _ _ D (a7g _)) (N _ F.ef);obtain⟨k4,Y,C⟩:=aa7.1 C;obtain rfl:=(List.mem_replicate.1 Y).2;obtain⟨c,_,rfl⟩:=a6S.1 C;exact nZ c
theorem II (N k4:TypeId) (y z:Operand) (k5:o.op= .call {callee:= .builtin .copy,args:= #[y,z],argTypes:= #[N,k4]}) (r:TypeId) (k6:m.underlying N=some (.slice r)) (S:Nat) (O:(m.info? r).map (·.size)=some S)
  (k7:aQ y=true) (k8:aQ z=true) (Q:bO u a j) (i:Holds u f l) (C:G ⟨m,t⟩ (.mP S y z) j f Z):bW m t o a l u f Z:=by
 have x:=Q.al y k7;have E:=Q.al z k8;simp only[G]at C;have a05: ∀(h p c F d:Nat) (b L:List R) (n:Own),aX u (a.eval z) (.J b n)->a.eval y= .slice (some ⟨h,p,none⟩) c F->d=S->(∀r∈b,r.cells.length=S)->f h=some (.cells L)->p+c*S<=L.length->
   Z (.v (.int .i64 (min b.length c))) (f.set h (.cells (putAt L p (flat (b.take c)))))->bW m t o a l u f Z:=by
  intro h p c F d b L n E s k9 P w a06 l0;subst k9;have l1: ∀r∈b.take c,r.cells.length=d:=λr V=>P r (a6M V);have a07:(flat (b.take c)).length=(min b.length c)*d:=by rw[cR l1,a6C,Nat.min_comm]
  have a08:min b.length c*d<=c*d:=a6O _ aaU;have l2: ∃D:Array Value,(Builtin.firstCells d (min b.length c) (a.eval z)).run m l= .ok D l/\bw u D (flat (b.take c))/\(∀A∈flat (b.take c),A.one=true)/\(Builtin.lenOf (a.eval z)).run m l= .ok b.length l:=by
   obtain⟨B,W,l3,a09,l4⟩:=E.src i P m;have a10:=((fX c P).2).symm;have a11:=cR P;generalize a13:a.eval z=l5 at E W;have l6:(Builtin.firstCells d (min b.length c) l5).run m l= .ok (B.take (min b.length c*d)).toArray l:=by
    cases E with
    |dg l7 X dt bZ l8=>have:=a6F (by rw[l3];rfl);subst this;cases l7<;>simp[Builtin.firstCells,loadCells,loadCellsFrom]
    |J Y j9 len X e q xs dt a14 l9 a15 a16 a18 hH a19 l8=>
     subst l9;have a27: ∀k v,B[k]? =some v->l.cell? ((⟨Y,j9,none⟩:Addr).add k)=some v:=by
      intro k v g;have a29:k<(flat b).length:=by grind
      have H:=W.cells;by_cases k0:b= []
      .subst k0;trivial
      have n0:e=d:=by
       match b,k0 with
       |a30::a34,_=>simp_all
      subst n0;have n1:=run_firstCells_some (P:=m) l e b.length ⟨Y,j9,none⟩ b.length X ((List.range (b.length*e)).map q) aaV (λk v x=>by
       have g:k<b.length*e:=by grind
       rw[a7d,a8P g]at x;obtain rfl:q k=v:=by simpa using x
       rw[hv];exact i.ro _ _ _ (hH k g))
      rw[n1]at H;simp only[Result.ok.injEq,and_true]at H;have n2:(List.range (b.length*e)).map q=B:=by simp_all
      rw[<-n2,a7d,a8P aaU]at g;obtain rfl:q k=v:=by simpa using g
      rw[hv];exact i.ro _ _ _ (hH k aaU)
     grind[run_firstCells_some,min,Nat.mul_le_mul_right]
   refine⟨_,l6,bw.dU.2 ⟨?_,λk y a36 a38 a42=> ?_⟩,λA H=>l4 A (by grind),W.len⟩;simp_all;grind
  obtain⟨D,n3,I,k1,n4⟩:=l2;obtain⟨k2,T,n5,a43,n9⟩:=Step.store i w p (flat (b.take c)) D I k1 aaU;refine .value ?_ n9 (.v _ rfl) l0;have k3:=run_storeCells_at m h p T D.toList 0 k2 l n5 (by have:=I.1;simp;omega) (I.nX k1);simp only[a8A]at k3;have a00:(storeCells ⟨h,p,none⟩ D.toList).run m l= .ok () (l.setRow h (dc k2 p D.toList)):=by rw[k3];rfl
  cases K:m.info? r with
  |none=>simp[K]at O
  |some ii=>
   have W:ii.size=d:=by simpa[K] using O
   have a01:Nat.min b.length c=min b.length c:=rfl;simp[execOp,k5,resolve,invoke,builtin,s,Builtin.copy_,run_underlying k6,n4,sizeOf,typeInfo,K,W,a01,n3,a00,goInt];omega
 split at C
 .rename_i h p c F d b n V M;rw[V]at x;rw[M]at E;obtain⟨rfl,P,C⟩:=C;split at C
  case h_2=>trivial
  rename_i L w;generalize s:a.eval y=a02 at x;cases x with
  |bE h p c F d a03 a04=>grind
 .rename_i h c F d b n V M;rw[V]at x;rw[M]at E;obtain⟨rfl,P,C⟩:=C;split at C
  case h_2=>trivial
  rename_i L w;generalize s:a.eval y=a02 at x;cases x with
  |ao h c F d a03 a04=>grind
 .trivial
theorem IJ (C:Bool) (E:TypeId) (k:Operand) (g:TypeId) (S:o.op= .binOp (if C then .neq else .eql) E k (.const (.slice none 0 0)) g) (T:TypeId) (i:m.underlying E=some (.slice T)) (n:aQ k=true) (q:bO u a j) (c:Holds u f l)
  (d:G ⟨m,t⟩ (.mQ C k) j f Z):bW m t o a l u f Z:=by
 have r:=q.al k n;have V: ∀v,a.eval (.const v)=v:=λ_=>rfl;have F: ∀b x z,a.eval k= .slice b x z->(execOp a.eval o).run m l= .ok (.value (.bool (xor C b.isNone))) l:=λb x z p=>by
  have W:=run_equalIn_slice_nil l 9999 E T b x z i;cases C
  .simp[execOp,S,p,V,eqGuard,binOp,Op.equal,Op.maxDepth,W]
  .simp[execOp,S,p,V,eqGuard,binOp,Op.equal,Op.maxDepth,W]
 simp only[G]at d;split at d
 case h_3=>trivial
 case h_2=>
  rename_i s x y e L;rw[L]at r;generalize p:a.eval k=w at r;cases r with
  |ao s x y e I A=>exact .same c (F _ x y p) (.v _ rfl) (by simpa using d)
 rename_i B D L;rw[L]at r;generalize p:a.eval k=w at r;cases r with
 |dg b y D bZ P=>
  have h:=F b 0 y p;cases D with
  |nil=>simp only[Own.lT]at P;subst P;exact .same c h (.v _ rfl) (by simpa using d)
  |buf H z=>trivial
  |any=>cases b with
   |none=>exact .same c h (.v _ rfl) (by simp_all)
   |some b=>exact .same c h (.v _ rfl) (by simpa using d.2)
  |zero=>cases b with
   |none=>exact .same c h (.v _ rfl) (by simp_all)
   |some b=>exact .same c h (.v _ rfl) (by simpa using d.2)
 |J K off len y e M B D hk hlen A N O hH Q P=>
  have h:=F _ len y p;cases D with
  |nil=>trivial
  |buf H z=>exact .same c h (.v _ rfl) (by simpa using d)
  |any=>exact .same c h (.v _ rfl) (by simpa using d.2)
  |zero=>trivial
theorem IK (k E:TypeId) (y:Operand) (z:o.op= .convert k E y) (c:TypeId) (F:m.underlying k=some .string) (W:m.underlying E=some (.slice c)) (e:m.underlying c=some (.int .u8)) (g:aQ y=true) (i:bO u a j) (C:Holds u f l) (L:G ⟨m,t⟩ (.pe y) j f Z):bW m t o a l u f Z:=by
 have p:=i.al y g;simp only[G]at L;split at L
 case h_2=>trivial
 rename_i b P;rw[P]at p;have n:=p.dV;have q:=run_bytes_of_string l k E c b F W e;have s:(execOp a.eval o).run m l= .ok (.value (.slice (some ⟨l.heap.size,0,none⟩) b.size (grownCap l b.size 0 c))) (l.drew.alloc (.cells (bytesRow b (grownCap l b.size 0 c)) c ((bytesRow b (grownCap l b.size 0 c)).size,(bytesRow b (grownCap l b.size 0 c)).size+1))):=by simp[execOp,z,n,q]
 have w:=grownCap_ge l b.size 0 c;generalize grownCap l b.size 0 c=S at*;have A:b.size<=(bytesRow b S).size:=by
  have:b.data.size=b.size:=rfl;simp[bytesRow]
  try omega
 have B: ∀d (h:d<b.size),(bytesRow b S)[d]? =some (.int .u8 ((b.data[d]'h).toNat)):=λd h=>by
  simp_all [bytesRow,a9t]
 generalize bytesRow b S=r at*;have k:=Step.write (h9:=l.drew.alloc (.cells r c (r.size,r.size+1))) C.drew l.heap.size b.size r c f rfl rfl rfl aaV (heap_alloc_new l.drew _) (λD _ T=>qn l.drew _ D T) (.inl rfl)
   A (λo v p=>by rw[C.mN]at p;cases p) (λM o N F=>F)
   (λo z=>by rw[C.ef]at z;cases z)
 refine .value s ((Step.drew C).trans k) ?_ L;by_cases H:b.size=0
 .have:b.data.toList= []:=by simp_all
  rw[H,this];exact .dg _ _ _ (λI=>by cases I) trivial
 .refine .J _ _ _ _ 1 (λd=>r.getD d undef) _ _ aaU ?_ w (λc P=> ?_) (λO V=> ?_) (λd h=> ?_) (λd Q x=> ?_) trivial;simp
  .obtain⟨D,_,rfl⟩:=a6S.1 P;rfl
  .rw[rW]at V;obtain⟨D,_,rfl⟩:=a6S.1 V;rfl
  simp_all [a7c,bl.p7]
  .rw[rW,a7d]at x;have h:d<b.size:=by rw[a9i]at x;obtain⟨D,T,_⟩:=x;have:=(a6H.1 T).1;trivial
   have K:d<b.data.size:=h;rw[a8j,a8I K,a7F,a6K]at x;subst x;rw[a7w,B d h];exact .v _ rfl
end
section
variable  {o:Oper}{a:Act}   
def bO.map (p:bO u a j) {b:Array Operand} (r: ∀d∈b.toList,aQ d=true):bw u (b.map a.eval) (b.toList.map (Go.bD.al j)):=by
 refine bw.dU.2 ⟨aaV,λx d y c h=> ?_⟩;rw[a9b,a7d]at c;rw[a7d]at h;cases k:b.toList[x]? with
 |none=>simp[k]at c
 |some op=>
  rw[k]at c h;obtain rfl:a.eval op=d:=by simpa using c
  obtain rfl:Go.bD.al j op=y:=by simpa using h
  exact p.al op (r op (a6D k))
theorem bw.append {b c:Array Value} (d:bw u b g) (h:bw u c B):bw u (b++c) (g++B):=by rw[bw.dU]at d h|-;grind
theorem IL (b:FuncId) (first c:Array Operand) (r:o.op= .makeFunc (.func b) first c) (x: ∀d∈first.toList,aQ d=true) (y: ∀d∈c.toList,aQ d=true) (h:bO u a j) (z:Holds u f l)
  (C:G ⟨m,t⟩ (.bG b first.toList c.toList) j f Z):bW m t o a l u f Z:=by
 have k:=h.map x;have p:=h.map y;refine .same z ?_ (.bG b _ _ _ _ k.1 k.2 p.1 p.2) C;simp only[execOp,r,Instr.makeFunc,Sem.run_bind,Sem.run_pure,Result.andThen_ok]
theorem IM (b:Operand) (args:Array Operand) (y:Array TypeId) (z:o.op= .call {callee:= .value b,args,argTypes:=y}) (C:aQ b=true)
  (D: ∀b∈args.toList,aQ b=true) (p:bO u a j) (r:Holds u f l) (c:G ⟨m,t⟩ (.iZ b args.toList) j f Z):bW m t o a l u f Z:=by
 intro w A;have h:=p.al b C;simp only[G]at c;split at c
 case h_2=>trivial
 rename_i k E F L;obtain⟨P,c⟩:=c;obtain⟨d,S,T,V⟩: ∃d,m.funcs[k]? =some d/\d.body.isSome/\d.name≠ "runtime.NumGoroutine" :=by unfold fu at P;grind
 rw[L]at h;generalize W:a.eval b=B at h;cases h with
 |bG k ws e E F hw g i n=>
  have q:=bw.append (bw.append ⟨hw,g⟩ (p.map D)) ⟨i,n⟩;have s:=c _ l u q r;have v:(execOp a.eval o).run m l= .ok (.enter k (ws++args.map a.eval++e)) l:=by
   cases x:d.body with
   |none=>simp[x]at T
   |some H=>simp[execOp,z,resolve,W,Deferred.ofValue,invoke,callFunc,S,V,x]
  unfold Oper.wp;rw[v];exact s.mono λI K r=>by
   grind
def IN (b:TypeId) (c:Operand) (h:o.op= .makeInterface b c) (d:TypeDesc) (k:m.underlying b=some d) (p: ∀r,d≠ .interface r) (x:aQ c=true) (y:bO u a j) (z:Holds u f l) (C:G ⟨m,t⟩ (.qy b c) j f Z):bW m t o a l u f Z:=by
 refine .same z ?_ (.iface b _ _ (y.al c x)) C;cases d<;>first
  |exact absurd rfl (p _)
  |simp[execOp,h,Instr.makeInterface,run_underlying k]
def IP (b:Operand) (r:o.op= .panic b) (x:aQ b=true) (y:bO u a j) (z:Holds u f l) (d:G ⟨m,t⟩ (.mR b) j f Z):bW m t o a l u f Z:=by
 intro P C;have c:=y.al b x;simp only[G]at d;split at d
 case h_2=>trivial
 rename_i h D E;rw[E]at c;have k:=c;generalize F:a.eval b=p at c k;cases c with
 |iface h p D S=>
  have L:(execOp a.eval o).run m l= .halt (.panic (.iface h p)) l:=by simp[execOp,r,F,run_panic_iface]
  unfold Oper.wp;rw[L];exact C _ _ _ _ _ (.refl z) k d
def IQ (d:TypeId) (b:Operand) (p:o.op= .range d b) (r:m.underlying d=some .string) (x:aQ b=true) (y:bO u a j) (h:Holds u f l) (c:G ⟨m,t⟩ (.km b) j f Z):bW m t o a l u f Z:=by
 have k:=y.al b x;simp only[G]at c;split at c
 case h_2=>trivial
 rename_i z C;rw[C]at k;have D:=k.dV;refine .value ?_ (Step.AM h _ (.it z 0) (heap_alloc_new l _)) (.ptr _ _) (c _ h.ef);simp[execOp,p,D,Instr.range,run_underlying r]
theorem IS (x:Operand) (D:o.op= .next x true) (P:aQ x=true) (S:bO u a j) (z:Holds u f l) (h:G ⟨m,t⟩ (.mS x) j f Z):bW m t o a l u f Z:=by
 have E:=S.al x P;simp only[G]at h;split at h
 case h_2=>trivial
 rename_i k i T;rw[T]at E;obtain⟨rfl,h⟩:=h;have F:=E.lj;split at h
 case h_2=>trivial
 rename_i d c L;have p:l.heap[k]? =some (.stringIter d c):=z.db k _ L;have n:=(a7P.1 p).1;by_cases y:c<d.size
 .rw[if_pos y]at h;have V:=Step.AN z (c:= .stringIter d (c+(Utf8.decode d c).2)) (X:= .it d (c+(Utf8.decode d c).2)) (by simp[L]) p (λq s j W=>by cases W) (by
   show(l.heap.setIfInBounds k _)[k]? = _;simp_all)
  refine .value (v:= .tuple #[.bool true,.int .i64 c,.int .i32 (Utf8.decode d c).1]) ?_ V (.aJ _ _ rfl (λr e b=> ?_)) h
  .have C:(getObj k).run m l= .ok (.stringIter d c) l:=by simp[getObj,Sem.run,p]
   have g:(setObj k (.stringIter d (c+(Utf8.decode d c).2))).run m l= .ok () {l with heap:=l.heap.setIfInBounds k (.stringIter d (c+(Utf8.decode d c).2))}:=by simp[setObj,Sem.run,p]
   simp[execOp,D,F,Instr.next,C,y,g,goInt]
  .match r,b with
   |0,b=>simp at b;subst b;exact .v _ rfl
   |1,b=>simp at b;subst b;exact .v _ rfl
   |2,b=>simp at b;subst b;exact .v _ rfl
   |r+3,b=>simp at b
 .rw[if_neg y]at h;refine .same z (v:= .tuple #[.bool false]) ?_ (.aJ _ _ rfl (λr e b=> ?_)) h
  .have C:(getObj k).run m l= .ok (.stringIter d c) l:=by simp[getObj,Sem.run,p]
   simp[execOp,D,F,Instr.next,C,y]
  .match r,b with
   |0,b=>simp at b;subst b;exact .v _ rfl
   |r+1,b=>simp at b
end
section
def rX (b:Program) (p:Nat) (c:TypeId) (d:List cb):Prop:=
 ∀(r:Bool) (x:Nat) (a:World) (h:Array Value) (k:Nat),fF d ((h.toList.drop k).take d.length)->
  ∃o,(part c h k).run b a= .ok o a/\(Instr.checkKey r (x+p) c o).run b a= .ok () a
def wD {d:cb}{h:TypeDesc} (k:m.underlying b2=some h) (o:h.isRow=false) (p: ∀c r a b,d.fit a->(Instr.checkKey c (r+1) b2 a).run m b= .ok () b):rX m (e+1) b2 [d]:=by intro c x b D E y;obtain⟨a,z,C,F⟩:=one_cell y;exact⟨a,o3 k o _ _ _ z b,p c (x+e) a b C⟩
theorem IT (a:m.underlying b2=some (.int e1)):rX m (e+1) b2 [.int e1]:=
 wD a rfl λb c d h k=>by
  simp_all [Instr.checkKey,run_underlying]
theorem IU (a:m.underlying b2=some .bool):rX m (e+1) b2 [.bool]:=
 wD a rfl λb c d h k=>by
  simp_all [Instr.checkKey,run_underlying]
theorem IV (a:m.underlying b2=some .string):rX m (e+1) b2 [.str]:=
 wD a rfl λb c d h k=>by
  simp_all [Instr.checkKey,run_underlying]
theorem wE: ∀(d:Nat) (h:TypeId) (k:List cb),flatK m d h=some k->m.cellsOf h=k.length->(m.info? h).isSome->rX m d h k
 |0,h,k,a,_,_=>by trivial
 |d+1,h,k,a,L,j=>by
  simp only[flatK]at a;cases hu:m.underlying h with
  |none=>simp[hu]at a
  |some desc=>
   simp only[hu]at a;cases desc<;>simp only[]at a<;>first
    |(cases a;done)
    |skip
   case int N=>obtain rfl:=a6x a;exact IT hu
   case bool=>obtain rfl:=a6x a;exact IU hu
   case string=>obtain rfl:=a6x a;exact IV hu
   case array o t=>
    split at a
    case h_2=>cases a
    rename_i b T;split at a
    case isFalse=>cases a
    rename_i p;obtain rfl:=a6x a;have ih:=wE d t b T p.1 p.2;obtain⟨x,C⟩:=a7m.1 j;obtain⟨u,v⟩:=a7m.1 p.2;have O:u.size=b.length:=by simpa[Program.cellsOf,v] using p.1
    have D:x.size=(List.replicate o b).flatten.length:=by simpa[Program.cellsOf,C] using L
    intro V y E z c F;refine⟨_,mb hu rfl C z c E,?_⟩;rw[show y+(d+1)=(y+d)+1 by omega,Instr.checkKey];simp only[Sem.run_bind,run_underlying hu,Result.andThen_ok];simp only[Std.Legacy.Range.forIn_eq_forIn_range',Std.Legacy.Range.size,Nat.sub_zero,Nat.add_one_sub_one,Nat.div_one];have r:fF (List.replicate o b).flatten (((z.extract c (c+x.size)).toList.drop (0*b.length)).take (List.replicate o b).flatten.length):=by rw[a9Q,a8a,tU,D,a7N,a8L];exact F
    clear F D L a hu;generalize z.extract c (c+x.size)=W at r|-;generalize (0)=P at r|-
    induction o generalizing P with
    |zero=>simp
    |succ o Q=>simp only[a8O,a8p]at r;obtain⟨G,S⟩:=pf r;have e:min b.length (b++(List.replicate o b).flatten).length=b.length:=aaV;have f:(b++(List.replicate o b).flatten).length - b.length=(List.replicate o b).flatten.length:=aaV;rw[a7N,e]at G;rw[a7T,a7p,f,show P*b.length+b.length=(P+1)*b.length by grind]at S;obtain⟨w,g,l⟩:=ih V y E W (P*b.length) G;simp_all [List.range'_succ,run_sizeOf]
   case struct A=>
    split at a;trivial;obtain⟨x,C⟩:=a7m.1 j;have D:x.size=k.length:=by simpa[Program.cellsOf,C] using L
    intro V y E z c F;refine⟨_,mb hu rfl C z c E,?_⟩;rw[show y+(d+1)=(y+d)+1 by omega,Instr.checkKey];simp only[Sem.run_bind,run_underlying hu,Result.andThen_ok];rw[<-Array.forIn_toList];have r:fF k (((z.extract c (c+x.size)).toList.drop 0).take k.length):=by rw[a8a,tU,D,a7N,a8L];exact F
    have ih:=λh b B H I=>wE d h b B H I;clear F D L hu;generalize z.extract c (c+x.size)=W at r|-;generalize (0)=n at r a;generalize A.toList=q at a|-
    induction q generalizing n k with
    |nil=>simp
    |cons X q K=>
     simp only[qA]at a;split at a
     case isFalse=>cases a
     rename_i s;split at a
     case h_2=>cases a
     rename_i b i T M;split at a
     case isFalse=>cases a
     rename_i p;obtain rfl:=a6x a;obtain⟨G,S⟩:=pf r;have e:min b.length (b++i).length=b.length:=aaV;have f:(b++i).length - b.length=i.length:=aaV;rw[a7N,e]at G;rw[a7T,a7p,f,<-p.1]at S;obtain⟨w,g,l⟩:=ih _ _ T p.1 p.2 V y E W n G;rw[<-s.1]at g;simp only[List.forIn_cons,Sem.run_bind,s.2,ne_eq,not_false_eq_true,if_true,Result.andThen_ok,g,l,Sem.run_pure];exact K _ _ S M
def IW {a:cb} (b:a.fit e4) (c:Nat):Instr.sameBits c e4 e4=true:=by
 cases a<;>cases e4<;>first
  |exact b.elim
  |(simp[Instr.sameBits];done)
  |(simp only[Instr.sameBits];exact(Go.MapKept.bytes_beq _ _).2 rfl)
theorem IX {k:Array Value}: ∀ {b:List cb},fF b k.toList->Instr.sameBits (e+1) (.agg k) (.agg k)=true:=by
 intro b d;simp only[Instr.sameBits,beq_self_eq_true,a8e];rw[a6P];have: ∀(b:List cb) (a:List Value),fF b a-> ∀h∈a.zip a,Instr.sameBits e h.1 h.2=true:=by
  intro b
  induction b with
  |nil=>intro a d h c;cases a with
   |nil=>cases c
   |cons _ _=>exact d.elim
  |cons o b ih=>intro a d h c;cases a with
   |nil=>cases c
   |cons p a=>
    rcases a6W.1 c with rfl|c
    .exact IW d.1 e
    .exact ih a d.2 h c
 grind
def fw (a:bl):List MapEntry->List (R×R×Nat)->Prop
 | [],[]=>True
 |b::es,c::us=>rQ a b c/\fw a es us
 | _,_=>False
def nY.list {o:bl}: ∀ {d:List MapEntry}{h:List (R×R×Nat)},d.length=h.length->(∀(k:Nat) (a:MapEntry) (b:R×R×Nat),d[k]? =some a->h[k]? =some b->rQ o a b)->fw o d h
 | [],[],_,_=>trivial
 |a::d,b::h,c,p=>⟨p 0 a b rfl rfl,nY.list (by simpa using c) λk a b r x=>p (k+1) a b (by trivial) (by trivial)⟩
 | [],_:: _,c,_=>by simp at c
 | _:: _,[],c,_=>by simp at c
theorem B6 {C:bl}{x:Nat}{h:TypeId}{k:List (Nat×cb)} (i:flatK m x h=some (jG k)) (N:x<=10000) (T:m.cellsOf h=(jG k).length) (V:(m.info? h).isSome) {j:TypeDesc} (L:m.underlying h=some j) (l:j.isRow=true)
  {W:Value}{o:List R} (O:aX C W (.agg o)) (n:dk k o) (y:World): ∀(D:List MapEntry) (E:List (R×R×Nat)) (c:Nat),fw C D E->(∀F∈E,∃z,F.1= .agg z/\dk k z)->
  ∃d,(Instr.findAsking h W D c).run m y= .ok d y/\(match dH E (.agg o) c with
   |none=>d=none
   |some (e,v)=> ∃p,d=some (e,p.val)/\c<=e/\D[e - c]? =some p/\p.key=W/\aX C p.val v)
 | [],[],c,_,_=>⟨none,by rfl,rfl⟩
 | [],_:: _,_,a,_=>a.elim
 | _:: _,[],_,a,_=>a.elim
 |p::D,F::E,c,a,q=>by
  obtain⟨⟨f,l2,l3⟩,Q⟩:=a;obtain⟨z,s,X⟩:=q F aaV;rw[s]at f;cases O with
  |agg b _ Y t u=>
   generalize w:p.key=l4 at f;cases f with
   |agg ws _ l5 Z j9=>
    have A:bw C b o:=⟨t,u⟩;have B:bw C ws z:=⟨Z,j9⟩;obtain⟨k0,k1⟩:=pg _ o b.toList n (bw.dU.1 A).1 (bw.dU.1 A).2;obtain⟨k2,k3⟩:=pg _ z ws.toList X (bw.dU.1 B).1 (bw.dU.1 B).2;have k4:b.size=(jG k).length:=by have:=o2 k0;trivial
    have k5:ws.size=(jG k).length:=by have:=o2 k2;trivial
    obtain⟨g,H⟩:=a7m.1 V;have I:g.size=(jG k).length:=by simpa[Program.cellsOf,H] using T
    obtain⟨l6,l7,d,P,S,K,l8⟩:=tV x h _ i T V (10000 - x) y b ws 0 (by grind) (by grind);rw[mb L l H]at P S;have k6:b.extract 0 (0+g.size)=b:=by rw[a7c,I,<-k4];simp
    have k7:ws.extract 0 (0+g.size)=ws:=by rw[a7c,I,<-k5];simp
    rw[k6]at P;rw[k7]at S;simp only[Result.ok.injEq,and_true]at P S;subst P;subst S;rw[show 10000 - x+x=10000 by omega]at K;have k8:(b=ws)↔d=true:=by grind[List.take_of_length_le,Array.toList_inj]
    have k9:peq (.agg o) (.agg z)=d:=by
     rw[a9f,qs,<-k8,k1,k3];constructor
     .intro a;have l9:=R.agg.inj a;have: ∀G r:List Value,G.map R.v=r.map R.v->G=r:=λG r a=>by
       induction G generalizing r with
       |nil=>cases r with
        |nil=>rfl
        |cons _ _=>cases a
       |cons n0 G ih=>cases r with
        |nil=>cases a
        |cons n1 r=>grind
      grind
     .rintro rfl;rfl
    obtain⟨l0,l1,n2⟩:=B6 i N T V L l (.agg b o Y t u) n y D E (c+1) Q λF L=>q F (by simp[L]);have M:(Op.equal h (.agg b) (.agg ws)).run m y= .ok d y:=K;simp only[dH,s,k9];cases d with
    |true=>refine⟨some (c,p.val),by simp[Instr.findAsking,w,M],?_⟩;grind
    |false=>refine⟨l0,by simp[Instr.findAsking,w,M,l1],?_⟩;grind
end
structure nc (a:Program) (b:TypeId) (rs:List (Nat×cb)):Prop where
 flat: ∃d,d<=10000/\flatK a d b=some (jG rs)
 size:a.cellsOf b=(jG rs).length
 info:(a.info? b).isSome
 row: ∃c,a.underlying b=some c/\c.isRow=true/\(match a.underlying b with|some (.array _ _)|some (.struct _)=>true| _=>false)=true
variable{j5:List (Nat × cb)}
section
theorem nc.check (a:nc m b2 j5) (r:aX u e4 (.agg g)) (x:dk j5 g) (d:Bool) (c:World):(Instr.checkKey d 10000 b2 e4).run m c= .ok () c:=by
 obtain⟨h,S,y⟩:=a.flat;obtain⟨T,z,C,_⟩:=a.row;cases r with
 |agg b _ V D E=>
  have k:bw u b g:=⟨D,E⟩;obtain⟨F,W⟩:=pg _ g b.toList x (bw.dU.1 k).1 (bw.dU.1 k).2;have G:b.size=(jG j5).length:=by have:=o2 F;trivial
  obtain⟨o,p⟩:=a7m.1 a.info;have L:o.size=(jG j5).length:=by simpa[Program.cellsOf,p] using a.size
  obtain⟨e,P,f⟩:=wE h b2 _ y a.size a.info d (10000 - h) c b 0 (by grind);rw[mb z C p]at P;have i:b.extract 0 (0+o.size)=b:=by rw[a7c,L,<-G];simp
  grind
theorem nc.find (a:nc m b2 j5) (r:aX u e4 (.agg g)) (x:dk j5 g) (k:World) {b:List MapEntry}{c:List (R×R×Nat)} (y:fw u b c) (z: ∀C∈c,∃o,C.1= .agg o/\dk j5 o):
  ∃d,(Instr.findKey b2 e4 b).run m k= .ok d k/\(match dH c (.agg g) 0 with
   |none=>d=none
   |some (p,v)=> ∃h,d=some (p,h.val)/\b[p]? =some h/\h.key=e4/\aX u h.val v):=by
 obtain⟨L,D,E⟩:=a.flat;obtain⟨P,F,G,S⟩:=a.row;obtain⟨d,T,V⟩:=B6 E D a.size a.info F G r x k b c 0 y z;grind[run_findKey_eq,dH,id]
def IY {k o:TypeId} (p:m.underlying k=some (.map o b2)) (r:nc m o j5) {x:TypeInfo} (L:m.info? b2=some x) (P:x.zero=some e4) {y:Value} (z:aX u y (.agg g)) (C:dk j5 g)
  {b:Array MapEntry} (D:l.heap[e]? =some (.map b i)) {a:List (R×R×Nat)} (S:fw u b.toList a) (T: ∀V∈a,∃E,V.1= .agg E/\dk j5 E) (c:Bool):
  ∃d,(Instr.lookup k (.map (some e)) y c).run m l= .ok d l/\(match dH a (.agg g) 0 with
   |none=>d=if c then .tuple #[e4,.bool false]else e4
   |some (_,v)=> ∃h,aX u h v/\d=if c then .tuple #[h,.bool true]else h):=by
 obtain⟨s,F,W⟩:=r.find z C l S T;have G:=r.check z C b.isEmpty l;have f:(zeroValue b2).run m l= .ok e4 l:=by simp[zeroValue,typeInfo,L,P]
 revert W;cases dH a (.agg g) 0 with
 |none=>rintro rfl;exact⟨_,by simp[Instr.lookup,run_underlying p,MapKept.run_getObj_map D,G,F,f],rfl⟩
 |some j=>obtain⟨t,v⟩:=j;rintro⟨n,rfl,_,_,q⟩;exact⟨_,by simp[Instr.lookup,run_underlying p,MapKept.run_getObj_map D,G,F],n.val,q,rfl⟩
def fw.length: ∀ {a:List MapEntry}{b:List (R×R×Nat)},fw u a b->a.length=b.length
 | [],[],_=>rfl
 | _:: _,_:: _,c=>by simp[fw.length c.2]
theorem fw.set: ∀ {c:List MapEntry}{d:List (R×R×Nat)}{h:Nat}{b:MapEntry}{k o:Value}{v:R},fw u c d->c[h]? =some b->b.key=k->aX u o v->
  fw u (c.modify h λb=> {b with key:=k,val:=o}) (d.modify h λp=>(p.1,v,p.2.2))
 | [],_,_,_,_,_,_,_,a,_,_=>by simp at a
 | _:: _,[],_,_,_,_,_,a,_,_,_=>a.elim
 |x::c,p::d,0,b,k,o,v,a,he,hk,r=>by
  simp at he;subst he;simp only[aaw];exact⟨⟨by rw[<-hk];exact a.1.1,r,a.1.2.2⟩,a.2⟩
 |x::c,p::d,h+1,b,k,o,v,a,he,hk,r=>by
  simp only[aax];exact⟨a.1,fw.set a.2 (by trivial) hk r⟩
def fw.push: ∀ {b:List MapEntry}{c:List (R×R×Nat)}{d:MapEntry}{h:R×R×Nat},fw u b c->rQ u d h->fw u (b++ [d]) (c++ [h])
 | [],[],_,_,_,a=>⟨a,trivial⟩
 | _:: _,_:: _,_,_,a,k=>⟨a.1,fw.push a.2 k⟩
theorem IZ {p S:TypeId} (r:m.underlying b2=some (.map p S)) (x:nc m p j5) {c:Value}{v:R} (d:aX u e4 (.agg g)) (k:dk j5 g) (y:aX u c v)
  {a:Array MapEntry} (h:l.heap[i]? =some (.map a e)) {b:List (R×R×Nat)} (o:fw u a.toList b) (T: ∀V∈b,∃z,V.1= .agg z/\dk j5 z):
  ∃C:Array MapEntry,(Instr.mapUpdate b2 (.map (some i)) e4 c).run m l= .ok () {l with heap:=l.heap.setIfInBounds i (.map C (kZ b (.agg g) v e).2)}/\fw u C.toList (kZ b (.agg g) v e).1:=by
 obtain⟨I,D,W⟩:=x.find d k l o T;have E:=x.check d k false l;unfold kZ;revert W;cases dH b (.agg g) 0 with
 |none=>
  rintro rfl;refine⟨a.push {key:=e4,val:=c,born:=e},?_,?_⟩
  .simp[Instr.mapUpdate,run_underlying r,MapKept.run_getObj_map h,E,D,MapKept.run_setObj_map _ h]
  .simp only[Array.toList_push];exact o.push ⟨d,y,rfl⟩
 |some f=>
  obtain⟨F,K⟩:=f;rintro⟨G,rfl,j,n,M⟩;have q:Instr.sameBits 10000 e4 e4=true:=by
   cases d with
   |agg L _ N s t=>have P:bw u L g:=⟨s,t⟩;obtain⟨w,O⟩:=pg _ g L.toList k (bw.dU.1 P).1 (bw.dU.1 P).2;have A:(10000)=9999+1:=rfl;rw[A];exact IX w
  have B:(Instr.keyThatStays e4 e4).run m l= .ok e4 l:=by simp[Instr.keyThatStays,q]
  have H:((a[F]?).map (·.key)).getD e4=e4:=by simp_all
  refine⟨a.modify F λG=> {G with key:=e4,val:=c},?_,?_⟩
  .simp only[Instr.mapUpdate,Sem.run_bind,run_underlying r,Result.andThen_ok,MapKept.run_getObj_map h,E,D,H,B,MapKept.run_setObj_map _ h]
  .rw[Array.toList_modify];exact o.set j n y
end
section
variable  {o:Oper}{a:Act}   
def aX.wF (b:aX u e4 (.eX e)):e4= .map (some e):=by cases b;rfl
def J0 (c:TypeId) (d:o.op= .makeMap c none) (b:Holds u f l) (h:G ⟨m,t⟩ .kn j f Z):bW m t o a l u f Z:=by refine .value ?_ (Step.AM b _ (.mp [] 0) ⟨#[],heap_alloc_new l _,rfl,λp r x k=>by simp at k⟩) (.eX _) (h _ b.ef);simp[execOp,d,Instr.makeMap]
def J1 (d:TypeId) (b:Operand) (r:o.op= .call {callee:= .builtin .len,args:= #[b],argTypes:= #[d]}) (x y:TypeId) (z:m.underlying d=some (.map x y))
  (C:aQ b=true) (D:bO u a j) (h:Holds u f l) (c:G ⟨m,t⟩ (.pc b) j f Z):bW m t o a l u f Z:=by
 have k:=D.al b C;simp only[G]at c;split at c
 case h_2=>trivial
 rename_i p E;rw[E]at k;have F:=k.wF;split at c
 case h_2=>trivial
 rename_i L P S;obtain⟨T,V,W,e⟩:=h.db p _ S;refine .same h (v:= .int .i64 L.length) ?_ (.v _ rfl) c;simp[execOp,r,resolve,invoke,builtin,F,Builtin.len_,run_underlying z,run_getObj_map l p T P V,goInt,W]
def J2 (z C D:TypeId) (p r:Operand) (h:Bool) (e:o.op= .lookup z p r h) (g:m.underlying z=some (.map C D)) (i:nc m C j5) {E:TypeInfo} (q:m.info? D=some E) (s:E.zero=some e4) (F:aX u e4 n)
  (w:aQ p=true) (A:aQ r=true) (L:bO u a j) (x:Holds u f l) (c:G ⟨m,t⟩ (.ko h j5 n p r) j f Z):bW m t o a l u f Z:=by
 have P:=L.al p w;have S:=L.al r A;simp only[G]at c;split at c
 case h_2=>trivial
 rename_i B H I K;rw[I]at P;rw[K]at S;have M:=P.wF;split at c
 case h_2=>trivial
 rename_i T k6 N;obtain⟨O,Q,c⟩:=c;obtain⟨X,Y,k7,j9⟩:=x.db B _ N;have k0:fw u X.toList T:=nY.list (by trivial) λd k1 y k2 k3=>j9 d k1 y (by simpa using k2) k3;obtain⟨v,k4,k⟩:=IY g i q s S O Y k0 Q h;have V:(execOp a.eval o).run m l= .ok (.value v) l:=by simp[execOp,e,M,k4]
 revert c k;cases dH T (.agg H) 0 with
 |none=>
  intro c k;subst k;refine .same x V ?_ c;cases h with
  |false=>exact F
  |true=>exact .aJ _ _ rfl (λd y b=>by
    match d,b with
    |0,b=>simp at b;subst b;exact F
    |1,b=>simp at b;subst b;exact .v _ rfl
    |d+2,b=>simp at b)
 |some k5=>
  obtain⟨d,k8⟩:=k5;intro c k;obtain⟨k9,W,rfl⟩:=k;refine .same x V ?_ c;cases h with
  |false=>exact W
  |true=>exact .aJ _ _ rfl (λd y b=>by
    match d,b with
    |0,b=>simp at b;subst b;exact W
    |1,b=>simp at b;subst b;exact .v _ rfl
    |d+2,b=>simp at b)
theorem fw.ok {k:bl}: ∀ {p:List MapEntry}{r:List (R×R×Nat)},fw k p r-> ∀(d:Nat) (b:MapEntry) (c:R×R×Nat),p[d]? =some b->r[d]? =some c->rQ k b c
 | _:: _,_:: _,h,0,b,c,he,hu=>by simp at he hu;subst he;subst hu;exact h.1
 | _:: _,_:: _,h,d+1,b,c,he,hu=>fw.ok h.2 d b c (by trivial) (by trivial)
 | [],_,_,_,_,_,he,_=>by simp at he
theorem J3 (r P i:TypeId) (c d v:Operand) (h:o.op= .mapUpdate r c d v\/o.op= .insert r c d v) (n:m.underlying r=some (.map P i)) (q:nc m P j5)
  (s:aQ c=true) (w:aQ d=true) (A:aQ v=true) (x:bO u a j) (S:Holds u f l) (b:G ⟨m,t⟩ (.lf j5 c d v) j f Z):bW m t o a l u f Z:=by
 have T:=x.al c s;have V:=x.al d w;have B:=x.al v A;simp only[G]at b;split at b
 case h_2=>trivial
 rename_i H y I K;rw[I]at T;rw[K]at V;have M:=T.wF;split at b
 case h_2=>trivial
 rename_i k z W;obtain⟨N,O,b⟩:=b;obtain⟨Q,C,k2,X⟩:=S.db H _ W;have Y:fw u Q.toList k:=nY.list (by trivial) λD p E F L=>X D p E (by simpa using F) L;obtain⟨e,j9,g⟩:=IZ n q V N B C Y O;have k3:=(a7P.1 C).1;have k0:=Step.AN S (c:= .map e (kZ k (.agg y) (Go.bD.al j v) z).2) (X:= .mp (kZ k (.agg y) (Go.bD.al j v) z).1 (kZ k (.agg y) (Go.bD.al j v) z).2) (by simp[W]) C (λk4 p j k1=>by cases k1)
  ⟨e,by
   simp_all,by simpa using g.length,λD p E F L=>g.ok D p E (by simpa using F) L⟩
 refine .skip ?_ k0 b;rcases h with h|h<;>simp[execOp,h,M,j9]
end
end Go.bD
