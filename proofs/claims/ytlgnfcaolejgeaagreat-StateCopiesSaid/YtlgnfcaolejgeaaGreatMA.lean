import Derived.WalkKit
import Derived.Deep.MidRow
import Derived.ChangeKeysEq
import Derived.LaidEql
import Derived.Laws.Cover3
import Derived.WalkSmall
import Derived.Lib.Builder
import Derived.Lib.UnsafeStr
import Derived.MapKept
import Derived.WideKeyRuns
set_option linter.all false
def a8Z{p:Prop}(h:p:=by omega):p:=h
def a9a{p:Prop}(h:p:=by simp):p:=h
def a9b{p:Prop}(h:p:=by simp;omega):p:=h
def a9c{p:Prop}(h:p:=by assumption):p:=h
def a9d{p:Prop}(h:p:=by decide):p:=h
def a9e{p:Prop}(h:p:=by kernel_rfl):p:=h
def a9f{p:Prop}(h:p:=by rfl):p:=h
def a4u:=@And.intro
def a4v:=@Option.some.inj
def a4w:=@List.getElem?_eq_getElem
def a4x:=@List.take_of_length_le
def a4y:=@List.length_append
def a4z:=@List.length_take
def a4A:=@Bool.and_eq_true
def a4B:=@List.eq_nil_of_length_eq_zero
def a4C:=@List.length_cons
def a4D:=@List.mem_of_getElem?
def a4E:=@List.getElem?_eq_some_iff
def a4F:=@Ne.symm
def a4G:=@List.length_nil
def a4H:=@Option.some.injEq
def a4I:=@List.length_map
def a4J:=@List.append_assoc
def a4K:=@List.mem_of_mem_take
def a4L:=@Nat.mul_le_mul_right
def a4M:=@List.mem_append
def a4N:=@List.length_drop
def a4O:=@List.all_eq_true
def a4P:=@List.nil_append
def a4Q:=@List.mem_singleton
def a4R:=@List.mem_map
def a4S:=@List.take_length
def a4T:=@List.mem_cons
def a4U:=@List.map_cons
def a4V:=@List.drop_eq_getElem_cons
def a4W:=@Nat.zero_add
def a4X:=@List.getElem?_map
def a4Y:=@List.flatMap_cons
def a4Z:=@List.getElem_mem
def a5a:=@Int.toNat_natCast
def a5b:=@List.mem_of_mem_drop
def a5c:=@Nat.le_refl
def a5d:=@Nat.zero_le
def a5e:=@List.take_append_drop
def a5f:=@List.getD_cons_zero
def a5g:=@List.pairwise_cons
def a5h:=@List.getD_cons_succ
def a5i:=@List.getElem_of_mem
def a5j:=@Option.isSome_iff_exists
def a5k:=@List.drop_eq_nil_of_le
def a5l:=@List.drop_drop
def a5m:=@List.flatMap_append
def a5n:=@Nat.mul_one
def a5o:=@List.takeWhile_append_dropWhile
def a5p:=@List.getD_eq_getElem?_getD
def a5q:=@Bool.not_true
def a5r:=@Bool.not_false
def a5s:=@UInt8.toNat_inj
def a5t:=@Array.getD_eq_getD_getElem?
def a5u:=@Nat.le_trans
def a5v:=@Nat.shiftRight_eq_div_pow
def a5w:=@List.getElem?_take_of_lt
def a5x:=@Option.map_some
def a5y:=@List.map_append
def a5z:=@List.pairwise_append
def a5A:=@Bool.false_eq_true
def a5B:=@List.append_nil
def a5C:=@List.foldl_cons
def a5D:=@UInt8.toNat_ofNat'
def a5E:=@List.length_pos_iff
def a5F:=@Nat.add_mul
def a5G:=@Prod.mk.injEq
def a5H:=@List.take_succ_eq_append_getElem
def a5I:=@List.take_add_one
def a5J:=@Nat.lt_of_lt_of_le
def a5K:=@List.cons_append
def a5L:=@List.take_take
def a5M:=@Array.getElem?_eq_some_iff
def a5N:=@List.set_eq_take_append_cons_drop
def a5O:=@List.mem_range
def a5P:=@List.drop_take
def a5Q:=@List.takeWhile_cons
def a5R:=@List.mem_cons_of_mem
def a5S:=@List.drop_of_length_le
def a5T:=@List.length_singleton
def a5U:=@Bool.true_and
def a5V:=@List.drop_append
def a5W:=@List.not_mem_nil
def a5X:=@List.pairwise_iff_getElem
def a5Y:=@List.take_append_of_le_length
def a5Z:=@List.drop_append_of_le_length
def a6a:=@Int.toNat_of_nonneg
def a6b:=@List.map_congr_left
def a6c:=@List.drop_succ_cons
def a6d:=@Bool.not_eq_true'
def a6e:=@Array.getElem?_toList
def a6f:=@Nat.min_eq_left
def a6g:=@Bool.or_eq_true
def a6h:=@List.getElem?_cons_zero
def a6i:=@Nat.mod_eq_of_lt
def a6j:=@Nat.pow_le_pow_right
def a6k:=@List.map_nil
def a6l:=@List.flatten_cons
def a6m:=@List.length_zipWith
def a6n:=@List.getElem?_append_left
def a6o:=@List.length_replicate
def a6p:=@Option.isSome_none
def a6q:=@List.mem_cons_self
def a6r:=@Option.getD_some
def a6s:=@List.take_zero
def a6t:=@List.getElem?_cons_succ
def a6u:=@Int.eq_ofNat_of_zero_le
def a6v:=@List.foldl_append
def a6w:=@Nat.add_zero
def a6x:=@List.length_eq_one_iff
def a6y:=@Nat.testBit_lt_two_pow
def a6z:=@List.map_map
def a6A:=@Nat.mod_lt
def a6B:=@List.exists_cons_of_ne_nil
def a6C:=@List.drop_zero
def a6D:=@List.mem_append_right
def a6E:=@Array.getElem?_eq_getElem
def a6F:=@List.mem_or_eq_of_mem_set
def a6G:=@List.eraseIdx_eq_take_drop_succ
def a6H:=@Nat.min_self
def a6I:=@List.mem_append_left
def a6J:=@List.take_left'
def a6K:=@List.replicate_succ
def a6L:=@List.getElem?_range
def a6M:=@Nat.shiftLeft_eq
def a6N:=@Bool.false_and
def a6O:=@Nat.sub_self
def a6P:=@Option.isSome_some
def a6Q:=@Iff.rfl
def a6R:=@List.cons.injEq
def a6S:=@Nat.eq_of_mul_eq_mul_right
def a6T:=@List.pairwise_map
def a6U:=@Nat.eq_of_testBit_eq
def a6V:=@Array.toList_map
def a6W:=@List.perm_middle
def a6X:=@List.dropWhile_cons
def a6Y:=@Nat.add_sub_cancel_left
def a6Z:=@Bool.eq_iff_iff
def a7a:=@List.append_of_mem
def a7b:=@Nat.xor_lt_two_pow
def a7c:=@Option.map_eq_some_iff
def a7d:=@Nat.shiftLeft_add_eq_or_of_lt
def a7e:=@List.take_left
def a7f:=@Bool.false_xor
def a7g:=@List.drop_left
def a7h:=@List.getElem?_eq_none
def a7i:=@List.take_length_add_append
def a7j:=@List.drop_length_add_append
def a7k:=@List.getElem?_of_mem
def a7l:=@List.flatMap_nil
def a7m:=@List.any_eq_true
def a7n:=@List.getElem?_append_right
def a7o:=@Array.getElem?_append_left
def a7p:=@List.map_drop
def a7q:=@Nat.one_mul
def a7r:=@List.take_succ_cons
def a7s:=@Nat.div_add_mod
def a7t:=@Nat.div_le_self
def a7u:=@List.drop_left'
def a7v:=@List.length_set
def a7w:=@List.mem_filter
def a7x:=@List.getElem?_drop
def a7y:=@Int.cast_ofNat_Int
def a7z:=@List.Pairwise.imp_of_mem
def a7A:=@List.filter_append
def a7B:=@List.mem_of_mem_eraseIdx
def a7C:=@List.foldl_nil
def a7D:=@List.length_pos_of_mem
def a7E:=@List.sum_cons
def a7F:=@List.take_append
def a7G:=@Option.getD_none
def a7H:=@List.flatMap_def
def a7I:=@List.drop_length
def a7J:=@List.append_cons
def a7K:=@List.filter_cons
def a7L:=@Bool.and_eq_false_iff
def a7M:=@List.length_filter_le
def a7N:=@Array.getElem?_setIfInBounds_ne
def a7O:=@Nat.zero_mul
def a7P:=@Array.eq_empty_of_size_eq_zero
def a7Q:=@Nat.testBit_xor
def a7R:=@List.getElem?_append
def a7S:=@Array.length_toList
def a7T:=@List.filter_eq_self
def a7U:=@Option.map_map
def a7V:=@Nat.mul_le_mul
def a7W:=@List.mem_filterMap
def a7X:=@Array.extract_eq_self_of_le
def a7Y:=@Nat.add_assoc
def a7Z:=@List.map_take
def a8a:=@Nat.testBit_two_pow_add_gt
def a8b:=@Int.tdiv_eq_ediv_of_nonneg
def a8c:=@List.cons.inj
def a8d:=@Nat.lt_trichotomy
def a8e:=@List.ext_getElem?
def a8f:=@List.mem_flatten
def a8g:=@Array.toList_inj
def a8h:=@List.isEmpty_iff
def a8i:=@Nat.add_comm
def a8j:=@Int.zero_add
def a8k:=@Nat.pow_succ
def a8l:=@List.ext_getElem
def a8m:=@BitVec.toNat_xor
def a8n:=@Int.sub_zero
def a8o:=@List.getElem_map
def a8p:=@Nat.le_mul_of_pos_right
def a8q:=@Nat.testBit_mod_two_pow
def a8r:=@List.filter_cons_of_neg
def a8s:=@List.filter_cons_of_pos
def a8t:=@List.append_inj
def a8u:=@List.range_succ
def a8v:=@List.filter_nil
def a8w:=@Int.le_refl
def a8x:=@BitVec.isLt
def a8y:=@List.range_succ_eq_map
def a8z:=@Nat.le_mul_of_pos_left
def a8A:=@List.getElem?_set_self
def a8B:=@List.modify_zero_cons
def a8C:=@List.modify_succ_cons
def a8D:=@Array.getElem?_append
def a8E:=@List.take_succ
def a8F:=@Nat.add_sub_add_right
def a8G:=@List.singleton_append
def a8H:=@Array.ext'
def a8I:=@Array.getElem?_range
def a8J:=@List.replicate_succ'
def a8K:=@Bool.or_eq_false_iff
def a8L:=@List.take_nil
def a8M:=@Bool.and_true
def a8N:=@Bool.false_or
def a8O:=@Array.toList_zipIdx
def a8P:=@Nat.mul_le_mul_left
def a8Q:=@Nat.testBit_two_pow
def a8R:=@List.drop_set_of_lt
def a8S:=@Nat.le_of_eq
def a8T:=@Nat.succ_mul
def a8U:=@Nat.mul_comm
def a8V:=@Nat.succ_pos
def a8W:=@List.all_map
def a8X:=@Nat.lt_or_ge
def a8Y:=@Prod.mk.inj
namespace Go.bx
open Go
inductive Own where
 |any
 |nil
 |zero
 |buf (g cap:Nat)
inductive R where
 |v (x:Value)
 |ptr (l off:Nat)
 |bV (cs:List R)
 |J (xs:List R) (o:Own)
 |bA (l off len cap k:Nat)
 |an (l n cap k:Nat)
 |agg (cs:List R)
 |aK (a:List R)
 |iface (t:TypeId) (x:R)
 |bG (f:Nat) (pre cap:List R)
 |gQ (l:Nat)
def R.cells:R->List R
 | .agg cs=>cs
 | .aK _=> []
 |a=> [a]
def R.one:R->Bool
 | .agg _=>false
 | .aK _=>false
 | _=>true
def flat (a:List R):List R:=a.flatMap R.cells
abbrev bl:=Nat->Nat->Option Value
def Own.ok (a:Own) (b c d:Nat):Prop:=
 match a with
 | .any=>True
 | .buf h k=>h=b/\c=0/\k=d
 | _=>False
def Own.lE (a:Own) (b:Option Addr) (c:Nat):Prop:=
 match a with
 | .any=>True
 | .nil=>b=none
 | .zero=>c=0
 | .buf _ _=>False
inductive aY (p:bl):Value->R->Prop
 |v (x:Value) (h:x.oneCell'=true):aY p x (.v x)
 |ptr (l off:Nat):aY p (.pointer (some ⟨l,off,none⟩)) (.ptr l off)
 |bV (b off:Nat) (C:Nat->Value) (cs:List R) (E: ∀c∈cs,c.one=true) (hH: ∀d,d<cs.length->p b (off+d)=some (C d))
   (D: ∀d r,cs[d]? =some r->aY p (C d) r):aY p (.pointer (some ⟨b,off,none⟩)) (.bV cs)
 |dg (a:Option Addr) (cap:Nat) (o:Own) (bW:a=none->cap=0) (L:o.lE a cap):aY p (.slice a 0 cap) (.J [] o)
 |J (b off len cap k:Nat) (C:Nat->Value) (xs:List R) (o:Own) (hk:0<k) (hlen:len=xs.length) (F:len<=cap) (P: ∀e∈xs,e.cells.length=k)
   (E: ∀c∈flat xs,c.one=true) (hH: ∀d,d<len*k->p b (off+d)=some (C d)) (D: ∀d r,(flat xs)[d]? =some r->aY p (C d) r) (L:o.ok b off cap):
   aY p (.slice (some ⟨b,off,none⟩) len cap) (.J xs o)
 |bA (l off len cap k:Nat) (hk:0<k) (F:len<=cap):aY p (.slice (some ⟨l,off,none⟩) len cap) (.bA l off len cap k)
 |an (l n cap k:Nat) (hk:0<k) (F:n<=cap):aY p (.slice (some ⟨l,0,none⟩) n cap) (.an l n cap k)
 |agg (z:Array Value) (cs:List R) (E: ∀c∈cs,c.one=true) (G:z.size=cs.length) (D: ∀d r,cs[d]? =some r->aY p (z.getD d undef) r):aY p (.agg z) (.agg cs)
 |aK (z:Array Value) (cs:List R) (G:z.size=cs.length) (D: ∀d r,cs[d]? =some r->aY p (z.getD d undef) r):aY p (.tuple z) (.aK cs)
 |iface (t:TypeId) (x:Value) (y:R) (h:aY p x y):aY p (.iface t x) (.iface t y)
 |bG (f:Nat) (ws z:Array Value) (cJ cs:List R) (hw:ws.size=cJ.length) (S: ∀d r,cJ[d]? =some r->aY p (ws.getD d undef) r) (G:z.size=cs.length) (D: ∀d r,cs[d]? =some r->aY p (z.getD d undef) r):aY p (.func (.func f) ws z) (.bG f cJ cs)
 |gQ (l:Nat):aY p (.map (some l)) (.gQ l)
def br (h:bl) (a:Array Value) (b:List R):Prop:=a.size=b.length/\ ∀c d,b[c]? =some d->aY h (a.getD c undef) d
def bl.le (c d:bl):Prop:= ∀a b v,c a b=some v->d a b=some v
theorem bl.le.refl (a:bl):a.le a:=λ_ _ _ b=>b
variable{u:bl}
theorem bl.le.trans {a b:bl} (h:u.le a) (k:a.le b):u.le b:=λc d v o=>k c d v (h c d v o)
variable{e5:Value}
def aY.mono {E:bl} (F:u.le E) {a:R} (p:aY u e5 a):aY E e5 a:=by
 induction p with
 |v e5 p=>exact .v e5 p
 |ptr b off=>exact .ptr b off
 |bV r off x cs c hH _ ih=>exact .bV r off x cs c (λy z=>F _ _ _ (hH y z)) ih
 |dg a cap C bW D=>exact .dg a cap C bW D
 |J r off len cap d x xs C hk hlen h G c hH _ D ih=>exact .J r off len cap d x xs C hk hlen h G c (λy z=>F _ _ _ (hH y z)) ih D
 |bA b off len cap d hk h=>exact .bA b off len cap d hk h
 |an b L cap d hk h=>exact .an b L cap d hk h
 |agg k cs c o _ ih=>exact .agg k cs c o ih
 |aK k cs o _ ih=>exact .aK k cs o ih
 |iface P e5 S _ ih=>exact .iface P e5 S ih
 |bG T ws k cJ cs hw _ o _ V ih=>exact .bG T ws k cJ cs hw V o ih
 |gQ b=>exact .gQ b
def br.mono {a b:bl} (k:a.le b) {c:Array Value}{d:List R} (h:br a c d):br b c d:=⟨h.1,λo p r=>(h.2 o p r).mono k⟩
variable{n b3:R}
def aY.nI (a:aY u e5 n) (b:n.one=true):e5.oneCell'=true:=by cases a<;>first|assumption|rfl|(simp[R.one]at b)
theorem aY.undef (a:bl):aY a Go.undef (.aK []):= .aK #[] [] rfl (λc d b=>by simp at b)
theorem aY.cells {o:bl}{b:Value}{h:R} (p:aY o b h) (D:0<h.cells.length):br o b.cells h.cells/\ ∀k∈h.cells,k.one=true:=by
 have r:=p;cases p with
 |agg x cs E y z=>trivial
 |aK x cs y z=>trivial
 |v b F=>
  refine⟨⟨?_,?_⟩,by intro k c;simp[R.cells]at c;subst c;rfl⟩
  .cases b<;>simp_all [Value.cells,R.cells,Value.oneCell']
  .intro d C a
   match d,a with
   |0,a=>simp[R.cells]at a;subst a;cases b<;>simp_all [Value.cells,Value.oneCell']
   |d+1,a=>trivial
 | _=>
  refine⟨⟨rfl,?_⟩,by intro k c;simp[R.cells]at c;subst c;rfl⟩;intro d C a
  match d,a with
  |0,a=>simp[R.cells]at a;subst a;exact r
  |d+1,a=>simp[R.cells]at a
inductive bq where
 |cells (cs:List R)
 |ro (cs:List R)
 |buf (k n cap:Nat)
 |it (t:ByteArray) (pos:Nat)
 |mp (es:List (R×R×Nat)) (clock:Nat)
 |vE (m:Option Nat) (since:Nat) (seen:List Nat) (a:Nat)
 |oJ (T:TypeId) (cs:List R)
 |fB (cs:List R)
abbrev U:=Nat->Option bq
def U.set (b:U) (c:Nat) (d:bq):U:=λa=>if a=c then some d else b a
def U.del (b:U) (c:Nat):U:=λa=>if a=c then none else b a
def U.emp:U:=λ_=>none
def U.sub (c d:U):Prop:= ∀a b,c a=some b->d a=some b
def rk (c:bl) (a:MapEntry) (b:R×R×Nat):Prop:=aY c a.key b.1/\aY c a.val b.2.1/\a.born=b.2.2
def nJ (k:bl) (a:Array MapEntry) (b:List (R×R×Nat)):Prop:=a.size=b.length/\ ∀(c:Nat) (d:MapEntry) (h:R×R×Nat),a[c]? =some d->b[c]? =some h->rk k d h
def nJ.mono {o p:bl} (r:o.le p) {x:Array MapEntry}{y:List (R×R×Nat)} (a:nJ o x y):nJ p x y:=
 ⟨a.1,λb c d h k=>⟨(a.2 b c d h k).1.mono r,(a.2 b c d h k).2.1.mono r,(a.2 b c d h k).2.2⟩⟩
def kM (d:bl) (h:World) (b:Nat):bq->Prop
 | .cells cs=>(∀k∈cs,k.one=true)/\ ∃a T,h.heap[b]? =some (.cells a T (0,0))/\br d a cs/\ ∀c,d b c=none
 | .ro cs=>(∀k∈cs,k.one=true)/\ ∃a T x,h.heap[b]? =some (.cells a T x)/\br d a cs/\ ∀c,c<a.size->d b c=some (a.getD c undef)
 | .buf o p cap=>0<o/\p<=cap/\cap<=maxLen/\ ∃a T,h.heap[b]? =some (.cells a T (0,0))/\a.size=cap*o/\ ∀c,p*o<=c->d b c=none
 | .it y pos=>h.heap[b]? =some (.stringIter y pos)
 | .mp us clock=> ∃r,h.heap[b]? =some (.map r clock)/\nJ d r us
 | .vE z since seen C=>h.heap[b]? =some (.mapIter z since seen.toArray C)
 | .fB cs=>(∀k∈cs,k.one=true)/\ ∃a T,h.heap[b]? =some (.cells a T (a.size,a.size+1))/\br d a cs/\ ∀c,d b c=none
 | .oJ T cs=>(∀k∈cs,k.one=true)/\ ∃a,h.heap[b]? =some (.cells a T (0,0))/\br d a cs/\ ∀c,d b c=none
structure Holds (a:bl) (c:U) (w:World):Prop where
 ro: ∀b o v,a b o=some v->w.cell? ⟨b,o,none⟩=some v
 dO: ∀l o,c l=some o->kM a w l o
structure Step (k:bl) (c:U) (w:World) (h:bl) (d:U) (a:World):Prop where
 holds:Holds h d a
 le:k.le h
 os:a.os=w.os
 tape:a.tape=w.tape
 output:a.output=w.output/\w.drawn<=a.drawn
 size:w.heap.size<=a.heap.size
 block: ∀b,b<w.heap.size->c b=none->a.heap[b]? =w.heap[b]?
 ec: ∀b,d b≠none->c b≠none\/w.heap.size<=b
 mx: ∀b o,h b o≠none->k b o≠none\/c b≠none\/w.heap.size<=b
 jt: ∀b cs,b<w.heap.size->c b=some (.ro cs)->a.heap[b]? =w.heap[b]? /\(d b=none\/ ∃p,d b=some (.ro p))
theorem Step.refl {b:bl}{c:U}{d:World} (a:Holds b c d):Step b c d b c d:=
 ⟨a,.refl b,rfl,rfl,⟨rfl,a5c _⟩,a5c _,λ_ _ _=>rfl,λ_ a=> .inl a,λ_ _ a=> .inl a,λ_ _ _ a=>⟨rfl,.inr ⟨_,a⟩⟩⟩
theorem Step.trans {C D E:bl}{F o r:U}{G L P:World} (b:Step C F G D o L) (c:Step D o L E r P):Step C F G E r P where
 holds:=c.holds
 le:=b.le.trans c.le
 os:=c.os.trans b.os
 tape:=c.tape.trans b.tape
 output:=⟨c.output.1.trans b.output.1,a5u b.output.2 c.output.2⟩
 size:=a5u b.size c.size
 block:=λa h x=>by
  have y:o a=none:=by
   cases d:o a with
   |none=>rfl
   |some p=>
     rcases b.ec a (by simp[d])with z|z
     .trivial
     .omega
  rw[c.block a (a5J h b.size) y,b.block a h x]
 ec:=λa h=>by
  rcases c.ec a h with d|d
  .exact b.ec a d
  .exact .inr (a5u b.size d)
 mx:=λa p h=>by
  rcases c.mx a p h with d|d|d
  .exact b.mx a p d
  .exact .inr (b.ec a d)
  .exact .inr (.inr (a5u b.size d))
 jt:=λa T h x=>by
  obtain⟨y,k⟩:=b.jt a T h x;have S:=a5J h b.size;rcases k with k|⟨V,k⟩
  .refine⟨by rw[c.block a S k,y],.inl ?_⟩;cases d:r a with
   |none=>rfl
   |some p=>
     rcases c.ec a (by simp[d])with z|z
     .trivial
     .omega
  .obtain⟨W,e⟩:=c.jt a V S k;simp_all
variable{f t e4:U}{e i v O b8 j0:Nat}{l h7:World}
def Holds.lt (a:Holds u f l) {v:Value} (b:u e i=some v):e<l.heap.size:=
 World.block_lt_of_cell? l _ (a.ro e i v b)
def Holds.my (b:Holds u f l) (a:Nat):u l.heap.size a=none:=by
 cases c:u l.heap.size a with
 |none=>rfl
 |some v=>have:=b.lt c;omega
variable{Y:bq}
theorem kM.lt (a:kM u l e Y):e<l.heap.size:=by
 cases Y with
 |cells cs=>obtain⟨_,c,T,b,_⟩:=a;grind
 |ro cs=>obtain⟨_,c,T,d,b,_⟩:=a;grind
 |buf h k cap=>obtain⟨_,_,_,c,T,b,_⟩:=a;grind
 |it o pos=>exact(a5M.1 a).1
 |mp us clock=>obtain⟨p,b,_⟩:=a;grind
 |vE r since seen x=>exact(a5M.1 a).1
 |oJ T cs=>obtain⟨_,c,b,_⟩:=a;grind
 |fB cs=>obtain⟨_,c,T,b,_⟩:=a;grind
def Holds.ec (a:Holds u f l):f l.heap.size=none:=by
 cases b:f l.heap.size with
 |none=>rfl
 |some v=>have:=(a.dO _ _ b).lt;omega
theorem kM.kept {x:bl} (o:kM u h7 e Y) (r:u.le x) (p:l.heap[e]? =h7.heap[e]?) (L: ∀a,x e a≠none->u e a≠none):kM x l e Y:=by
 have y: ∀a,u e a=none->x e a=none:=λa z=>by
  grind
 cases Y with
 |cells cs=>obtain⟨c,d,T,b,h,k⟩:=o;exact⟨c,d,T,by rw[p];exact b,h.mono r,λa=>y a (k a)⟩
 |ro cs=>obtain⟨c,d,T,C,b,h,k⟩:=o;exact⟨c,d,T,C,by rw[p];exact b,h.mono r,λa z=>r _ _ _ (k a z)⟩
 |buf P S cap=>obtain⟨c,D,E,d,T,b,h,k⟩:=o;exact⟨c,D,E,d,T,by rw[p];exact b,h,λa z=>y a (k a z)⟩
 |it V pos=>exact by show l.heap[e]? = _;rw[p];exact o
 |mp us clock=>obtain⟨F,b,G⟩:=o;exact⟨F,by rw[p];exact b,G.mono r⟩
 |vE W since seen f=>exact by show l.heap[e]? = _;rw[p];exact o
 |oJ T cs=>obtain⟨c,d,b,h,k⟩:=o;exact⟨c,d,by rw[p];exact b,h.mono r,λa=>y a (k a)⟩
 |fB cs=>obtain⟨c,d,T,b,h,k⟩:=o;exact⟨c,d,T,by rw[p];exact b,h.mono r,λa=>y a (k a)⟩
def Holds.drop (a:Holds u f l) (d:t.sub f):Holds u t l:=⟨a.ro,λb c h=>a.dO b c (d b c h)⟩
theorem Step.drop {o p:bl}{r x c:U}{y z:World} (a:Step o r y p x z) (d:c.sub x):Step o r y p c z where
 holds:=a.holds.drop d
 le:=a.le
 os:=a.os
 tape:=a.tape
 output:=a.output
 size:=a.size
 block:=a.block
 ec:=λb C=>a.ec b (by
  cases h:c b with
  |none=>trivial
  |some k=>simp[d b k h])
 mx:=a.mx
 jt:=λb D C h=>by
  obtain⟨E,G⟩:=a.jt b D C h;refine⟨E,?_⟩;cases F:c b with
  |none=>simp
  |some k=>have L:=d b k F;simp_all
def Holds.drew {a:bl}{b:U}{c:World} (d:Holds a b c):Holds a b c.drew:=⟨d.ro,λh k o=>by
 have:=d.dO h k o;trivial⟩
def Step.drew {b:bl}{c:U}{d:World} (a:Holds b c d):Step b c d b c d.drew:=
 ⟨a.drew,.refl b,rfl,rfl,⟨rfl,Nat.le_succ _⟩,a5c _,λ_ _ _=>rfl,λ_ a=> .inl a,λ_ _ a=> .inl a,λ_ _ _ a=>⟨rfl,.inr ⟨_,a⟩⟩⟩
def up (b:R->U->Prop):R->U->Prop:=λv c=> ∃a,a.sub c/\b v a
def hE (x:Program) (y:FuncId) (z:List R) (k:U) (C D:R->U->Prop):Prop:=
 ∀(o:Array Value) (d:World) (h:bl),br h o z->Holds h k d->
  Calls x y o d λp r=>(∃v a b c,p= .returned v/\Step h k d b c r/\aY b v a/\C a c)\/
   (∃v a b c,p= .panicked [{v,recovered:=false}]/\Step h k d b c r/\aY b v a/\D a c)
theorem hE.mono {c:Program}{d:FuncId}{h:List R}{k:U}{o p r x:R->U->Prop} (y:hE c d h k o r) (G: ∀a b,o a b->p a b) (L: ∀a b,r a b->x a b):hE c d h k p x:=
 λz C D E F=>(y z C D E F).mono λ_ _ P=>by
  grind
def AC (p:Program) (r:FuncId) (x:List R) (c:U) (y:R->U->Prop):Prop:=
 ∀(d:Array Value) (a:World) (b:bl),br b d x->Holds b c a->
  Calls p r d a λz C=> ∃v h k o,z= .returned v/\Step b c a k o C/\aY k v h/\y h o
variable{s a7:R -> U -> Prop}{b5:FuncId}{g A e0:List R}{m:Program}
def AC.p (a:AC m b5 g f s):hE m b5 g f s a7:=
 λb c d h k=>(a b c d h k).mono λ_ _ o=> .inl o
def hE.H5 (b:hE m b5 g f s (up λ_ _=>False)):AC m b5 g f s:=
 λc d h k o=>(b c d h k o).mono λ_ _ a=>by
  rcases a with a|⟨v,p,r,x,y,z,C,_,_,D⟩
  .exact a
  .trivial
def AC.mono {c:Program}{d:FuncId}{h:List R}{k:U}{o p:R->U->Prop} (r:AC c d h k o) (x: ∀a b,o a b->p a b):AC c d h k p:=
 λy z C D E=>(r y z C D E).mono λ_ _ ⟨v,a,F,b,G,L,P,S⟩=>⟨v,a,F,b,G,L,P,x _ _ S⟩
def Shift (k:List R) (c:U) (o:List R) (p:U):Prop:=
 ∀(d:Array Value) (a:World) (b:bl),br b d k->Holds b c a-> ∃h,br h d o/\Step b c a h p a
def AC.pre (d:AC m b5 A f s) (h:Shift g t A f):AC m b5 g t s:=
 λa b k o p=>by
  obtain⟨r,x,c⟩:=h a b k o p;exact(d a b r x c.holds).mono λ_ _ ⟨v,y,z,f,C,D,E,F⟩=>⟨v,y,z,f,C,c.trans D,E,F⟩
def U.pP (b c:U):Prop:= ∀a,b a=none\/c a=none
def U.join (b c:U):U:=λa=>(b a).or (c a)
def U.mz (a:f e=some Y):(f.join t) e=some Y:=by simp[U.join,a]
def U.oK (a:f e=none):(f.join t) e=t e:=by simp[U.join,a]
def Step.frame {z:bl} (c:Step u f l z e4 h7) (C:f.pP t) (L:Holds u (f.join t) l):
  Step u (f.join t) l z (e4.join t) h7/\e4.pP t:=by
 have D: ∀b d,t b=some d->f b=none/\kM u l b d:=λb d r=>by
  have a:=(C b).resolve_right (by simp[r]);exact⟨a,L.dO b d (by rw[U.oK a];exact r)⟩
 have E:e4.pP t:=λb=>by
  cases r:t b with
  |none=>simp
  |some d=>
   left;obtain⟨y,o⟩:=D b d r;cases a:e4 b with
   |none=>rfl
   |some F=>
     rcases c.ec b (by simp[a])with p|p
     .trivial
     .have:=o.lt;omega
 refine⟨⟨⟨c.holds.ro,λb d r=> ?_⟩,c.le,c.os,c.tape,c.output,c.size,λh x a=> ?_,λh x=> ?_,λh d x=> ?_,λh G x a=> ?_⟩,E⟩
 .cases a:e4 b with
  |some F=>rw[U.mz a]at r;obtain rfl:=a4v r;exact c.holds.dO b F a
  |none=>
   rw[U.oK a]at r;obtain⟨y,o⟩:=D b d r;refine o.kept c.le (c.block b o.lt y) λP S=> ?_;rcases c.mx b P S with p|p|p
   .exact p
   .trivial
   .have:=o.lt;omega
 .exact c.block h x (by
   cases k:f h with
   |none=>rfl
   |some d=>rw[U.mz k]at a;cases a)
 .cases a:e4 h with
  |some d=>
   rcases c.ec h (by simp[a])with p|p
   .left;cases k:f h with
    |none=>trivial
    |some d=>simp[U.mz k]
   .omega
  |none=>
   rw[U.oK a]at x;left;cases k:f h with
   |some d=>simp[U.mz k]
   |none=>rw[U.oK k];exact x
 .rcases c.mx h d x with p|p|p
  .exact .inl p
  .right;left;cases k:f h with
   |none=>trivial
   |some d=>simp[U.mz k]
  .omega
 .cases k:f h with
  |some d=>
   rw[U.mz k]at a;obtain rfl:=a4v a;obtain⟨y,o⟩:=c.jt h G x k;refine⟨y,?_⟩;rcases o with o|⟨T,o⟩
   .rw[U.oK o];left;exact(C h).resolve_left (by simp[k])
   .exact .inr ⟨T,U.mz o⟩
  |none=>rw[U.oK k]at a;refine⟨c.block h x k,.inr ⟨G,?_⟩⟩;rw[U.oK ((E h).resolve_right (by simp[a]))];exact a
def U.H6 (a b:U):a.sub (a.join b):=λ_ _ c=>U.mz c
def hE.frame {z:Program}{C:FuncId}{D:List R}{d b:U}{E F:R->U->Prop} (G:hE z C D d E (up F)) (o:d.pP b):
  hE z C D (d.join b) (λc L=> ∃a,E c a/\a.pP b/\L=a.join b) (up F):=
 λP S T V h=>(G P S T V (h.drop (U.H6 d b))).mono λ_ _ W=>by
  rcases W with ⟨v,c,p,a,r,k,x,y⟩|⟨v,c,p,a,r,k,x,e,f,y⟩
  .exact .inl ⟨v,c,p,a.join b,r,(k.frame o h).1,x,a,y,(k.frame o h).2,rfl⟩
  .exact .inr ⟨v,c,p,a.join b,r,(k.frame o h).1,x,e,λg i j=>U.mz (f g i j),y⟩
theorem pQ (a:World) (c:Obj) (b:Nat) (d:b≠a.heap.size):(a.alloc c).heap[b]? =a.heap[b]? :=by show(a.heap.push c)[b]? = _;grind
theorem U.ah (c:U) (a:Nat) (b:bq):(c.set a b) a=some b:=by simp[U.set]
theorem U.ao (a:U) (b:bq) (c:e≠i):(a.set i b) e=a e:=by simp[U.set,c]
theorem U.il (b:U) (a:Nat):(b.del a) a=none:=by simp[U.del]
theorem U.eG (a:U) (b:e≠i):(a.del i) e=a e:=by simp[U.del,b]
def bl.ext (c:bl) (d h:Nat) (k:Array Value):bl:=λb a=>if b=d/\a<h then k[a]? else c b a
theorem bl.oL (d:bl) (a b:Nat) (c:Array Value) (h:e<b):(d.ext a b c) a e=c[e]? :=by simp[bl.ext,h]
theorem bl.oM (a:bl) (b c:Nat) (d:Array Value) (h: ¬(e=b/\i<c)):(a.ext b c d) e i=a e i:=by simp[bl.ext,h]
theorem Step.write {T:Nat×Nat} (z:Holds u f l) (c o:Nat) (k:Array Value) (V:TypeId) (r:U)
  (W:h7.os=l.os) (e:h7.tape=l.tape) (x:(h7.output,h7.drawn)=(l.output,l.drawn)) (g:l.heap.size<=h7.heap.size)
  (i:h7.heap[c]? =some (.cells k V T)) (C: ∀a,a<l.heap.size->a≠c->h7.heap[a]? =l.heap[a]?)
  (B:c=l.heap.size\/(f c≠none/\ ∀D,f c≠some (.ro D)))
  (H:o<=k.size) (j: ∀b v,u c b=some v->k[b]? =some v)
  (m: ∀h b,h≠c->r h=some b->f h=some b)
  (n: ∀b,r c=some b->kM (u.ext c o k) h7 c b):Step u f l (u.ext c o k) r h7:=by
 have E:u.le (u.ext c o k):=λa b v p=>by
  by_cases d:a=c/\b<o
  .obtain⟨rfl,q⟩:=d;rw[bl.oL _ _ _ _ q];exact j b v p
  .rw[bl.oM _ _ _ _ d];exact p
 have F: ∀a,a≠c-> ∀y,(u.ext c o k) a y=u a y:=λa d y=>bl.oM _ _ _ _ (λs=>d s.1);have x:h7.output=l.output/\l.drawn<=h7.drawn:=⟨congrArg Prod.fst x,a8S (congrArg Prod.snd x).symm⟩;refine⟨⟨λa b v p=> ?_,λh b G=> ?_⟩,E,W,e,x,g,λa d t=> ?_,λa d=> ?_,λa b d=> ?_,λa D d t=> ?_⟩
 .by_cases d:a=c
  .subst d;simp only[World.cell?,i,a6p,a5A,if_false];grind[bl.oL,bl.oM]
  .rw[F a d]at p;have:=z.ro a b v p;have w:=z.lt p;rw[<-this];exact World.cell?_of_block (C a w d)
 .by_cases d:h=c
  .subst d;exact n b G
  .have L:=z.dO h b (m h b d G);exact L.kept E (C h L.lt d) (λy P=>by rw[F h d]at P;exact P)
 grind
 .by_cases S:a=c;grind
  .left;cases A:r a with
   |none=>trivial
   |some b=>simp_all
 grind
 .have S:a≠c:=by grind
  refine⟨C a d S,?_⟩;cases A:r a with
  |none=>simp
  |some b=>simp_all
def bl.pR (a:bl) (b:Nat) (c:Array Value):a.ext b 0 c=a:=by funext d h;simp[bl.ext]
def Step.new (d:Holds u f l) (a:Array Value) (b:TypeId) (c:List R) (r: ∀x∈c,x.one=true) (y:br u a c):
  Step u f l u (f.set l.heap.size (.cells c)) (l.alloc (.cells a b)):=by
 have:=Step.write (h7:=l.alloc (.cells a b)) d l.heap.size 0 a b (f.set l.heap.size (.cells c)) rfl rfl rfl a9a (heap_alloc_new l _) (λz _ C=>pQ l _ z C) (.inl rfl)
  (a5d _) (λh v k=>by rw[d.my]at k;cases k) (λE h D o=>by rw[U.ao _ _ D]at o;exact o)
  (λh p=>by
   rw[U.ah]at p;obtain rfl:=a4v p;rw[bl.pR];exact⟨r,a,b,heap_alloc_new l _,y,d.my⟩)
 rwa[bl.pR]at this
def putAt (a:List R) (b:Nat) (c:List R):List R:=a.take b++c++a.drop (b+c.length)
theorem eH (a:List R) (b:Nat) (c:List R) (d:b+c.length<=a.length):(putAt a b c).length=a.length:=by simp[putAt];omega
def dh (a:Array Value) (b:Nat) (c:List Value):Array Value:=(a.toList.take b++c++a.toList.drop (b+c.length)).toArray
variable{j8:Array Value}
theorem br.dP:br u j8 g↔j8.toList.length=g.length/\ ∀(a:Nat) (d:Value) (b:R),j8.toList[a]? =some d->g[a]? =some b->aY u d b:=by
 constructor
 .rintro⟨k,h⟩;refine⟨by trivial,λa d b p c=> ?_⟩;have:=h a b c;simp_all
 .rintro⟨k,h⟩;refine⟨by trivial,λa b c=> ?_⟩;have r:=(a4E.1 c).1;have o:a<j8.size:=by simp at k;omega
  refine h a _ b ?_ c;simp[o]
theorem br.putAt {a:bl}{h:Array Value}{b c:List R}{k:Array Value} (o:br a h b) (p:br a k c) (d:Nat) (r:d+c.length<=b.length):
  br a (dh h d k.toList) (putAt b d c):=by
 grind[br.dP,dh,Go.bx.putAt,List.length_append,List.length_take,List.length_drop,List.append_assoc,List.getElem?_append_left]
theorem tl (c: ∀a∈g,a.one=true) (d: ∀a∈A,a.one=true) (b:Nat): ∀a∈putAt g b A,a.one=true:=by grind[putAt,List.mem_of_mem_take,List.mem_of_mem_drop]
theorem br.nI {k:bl}{c:Array Value}{a:List R} (o:br k c a) (p: ∀r∈a,r.one=true): ∀b∈c.toList,b.oneCell'=true:=by
 intro b x;obtain⟨d,y⟩:=a7k x;obtain⟨C,z⟩:=br.dP.1 o;have h:d<a.length:=by grind
 exact(z d b _ y (a4w h)).nI (p _ (a4Z h))
def Step.store (k:Holds u f l) (o:f e=some (.cells g)) (b:Nat) (c:List R) (d:Array Value) (D:br u d c)
  (E: ∀F∈c,F.one=true) (G:b+c.length<=g.length):
  ∃a T,l.heap[e]? =some (.cells a T (0,0))/\a.size=g.length/\Step u f l u (f.set e (.cells (putAt g b c))) (l.setRow e (dh a b d.toList)):=by
 obtain⟨L,a,T,h,p,r⟩:=k.dO e _ o;refine⟨a,T,h,p.1,?_⟩;have:=Step.write (h7:=l.setRow e (dh a b d.toList)) k e 0 (dh a b d.toList) T (f.set e (.cells (putAt g b c))) rfl rfl rfl a9a (setRow_heap l e a _ T _ h)
  (λP _ S=>setRow_other l e P _ S) (.inr (by simp[o])) (a5d _) (λx v y=>by rw[r]at y;cases y) (λW x V z=>by rw[U.ao _ _ V]at z;exact z)
  (λx C=>by
   rw[U.ah]at C;obtain rfl:=a4v C;rw[bl.pR];exact⟨tl L E b,_,T,setRow_heap l e a _ T _ h,p.putAt D b G,r⟩)
 rwa[bl.pR]at this
def H7 (a:Array Value) (b:Nat) (c:List Value) (d:b+c.length<=a.size):(dh a b c).size=a.size:=by simp[dh];omega
def Step.H8 (o:Holds u f l) (p:f e=some (.fB g)) (b:Nat) (c:List R) (d:Array Value) (r:br u d c)
  (F: ∀G∈c,G.one=true) (x:b+c.length<=g.length):
  ∃a T,l.heap[e]? =some (.cells a T (a.size,a.size+1))/\a.size=g.length/\Step u f l u (f.set e (.fB (putAt g b c))) (l.setRow e (dh a b d.toList)):=by
 obtain⟨L,a,T,h,k,y⟩:=o.dO e _ p;refine⟨a,T,h,k.1,?_⟩;have P:d.toList.length=c.length:=by have:=r.1;trivial
 have S:=H7 _ _ _ (by rw[P,k.1];exact x);have:=Step.write (h7:=l.setRow e (dh a b d.toList)) o e 0 (dh a b d.toList) T (f.set e (.fB (putAt g b c))) rfl rfl rfl a9a (setRow_heap l e a _ T _ h)
  (λV _ W=>setRow_other l e V _ W) (.inr (by simp[p])) (a5d _) (λz v C=>by rw[y]at C;cases C) (λj z i D=>by rw[U.ao _ _ i]at D;exact D)
  (λz E=>by
   rw[U.ah]at E;obtain rfl:=a4v E;rw[bl.pR];exact⟨tl L F b,_,T,by rw[S];exact setRow_heap l e a _ T _ h,k.putAt r b x,y⟩)
 rwa[bl.pR]at this
theorem Step.vF (k:Holds u f l) (b:f e=some (.cells g)\/(∃T,f e=some (.oJ T g))\/f e=some (.fB g)):
  ∃C,Step u f l C (f.set e (.ro g)) l:=by
 obtain⟨o,p,a,T,z,c,r,x⟩:(f e≠none/\ ∀g,f e≠some (.ro g))/\(∀D∈g,D.one=true)/\ ∃a T z,l.heap[e]? =some (.cells a T z)/\br u a g/\ ∀d,u e d=none:=by
  rcases b with b|⟨T,b⟩|b
  .obtain⟨p,a,T,c,r,x⟩:=k.dO e _ b;simp_all
  .obtain⟨p,a,c,r,x⟩:=k.dO e _ b;simp_all
  .obtain⟨p,a,T,c,r,x⟩:=k.dO e _ b;simp_all
 refine⟨u.ext e a.size a,Step.write k e a.size a T _ rfl rfl rfl (a5c _) c (λ_ _ _=>rfl) (.inr o) (a5c _) (λd v y=>by rw[x]at y;cases y)
  (λG d E o=>by rw[U.ao _ _ E]at o;exact o) (λd h=> ?_)⟩
 rw[U.ah]at h;obtain rfl:=a4v h;have F:u.le (u.ext e a.size a):=λL d v y=>by
  rw[bl.oM _ _ _ _ (λc=>by simp_all)];exact y
 refine⟨p,a,T,z,c,r.mono F,λd h=> ?_⟩;rw[bl.oL _ _ _ _ h];simp[h]
def Step.freeze (a:Holds u f l) (b:f e=some (.cells g)): ∃c,Step u f l c (f.set e (.ro g)) l:=Step.vF a (.inl b)
theorem br.sub (c:br u j8 g) (a b:Nat) (d:a+b<=g.length):br u (j8.extract a (a+b)) ((g.drop a).take b):=by grind[br.dP,List.getElem?_eq_some_iff,List.getElem?_take_of_lt,Array.getElem?_extract]
theorem Step.other (o:Holds u f l) (c:Nat) (ob:bq)
  (D:h7.os=l.os) (E:h7.tape=l.tape) (h:(h7.output,h7.drawn)=(l.output,l.drawn)) (F:l.heap.size<=h7.heap.size)
  (x: ∀a,a<l.heap.size->a≠c->h7.heap[a]? =l.heap[a]?) (T:c=l.heap.size\/(f c≠none/\ ∀y,f c≠some (.ro y))) (G: ∀d,u c d=none)
  (V:kM u h7 c ob):Step u f l u (f.set c ob) h7:=by
 have h:h7.output=l.output/\l.drawn<=h7.drawn:=⟨congrArg Prod.fst h,a8S (congrArg Prod.snd h).symm⟩;refine⟨⟨λa d v k=> ?_,λp d r=> ?_⟩,.refl u,D,E,h,F,λa b L=> ?_,λa b=> ?_,λa d b=> .inl b,λa y b L=> ?_⟩
 .have b:a≠c:=by rintro rfl;rw[G]at k;cases k
  have P:=o.lt k;rw[<-o.ro a d v k];exact World.cell?_of_block (x a P b)
 .by_cases b:p=c
  .subst b;rw[U.ah]at r;simp_all
  .rw[U.ao _ _ b]at r;have z:=o.dO p d r;exact z.kept (.refl u) (x p z.lt b) (λW S=>S)
 grind
 .by_cases C:a=c;grind
  .rw[U.ao _ _ C]at b;exact .inl b
 .have C:a≠c:=by grind
  grind[U.ao]
def Step.A6 (b:Holds u f l) (c:Obj) (a:bq) (d:kM u (l.alloc c) l.heap.size a):Step u f l u (f.set l.heap.size a) (l.alloc c):=
 .other b _ a rfl rfl rfl a9a (λh _ k=>pQ l _ h k) (.inl rfl) b.my d
theorem Holds.H9 (c:Holds u f l) {b:Obj} (p:l.heap[e]? =some b) (r: ∀d h k,b≠ .cells d h k) (a:Nat):u e a=none:=by
 cases o:u e a with
 |none=>rfl
 |some v=>exfalso;have:=c.ro e a v o;grind[World.cell?,Option.some.inj]
def Step.A7 (a:Holds u f l) {b c:Obj} (d:f e≠none/\ ∀h,f e≠some (.ro h)) (k:l.heap[e]? =some b) (o: ∀p r x,b≠ .cells p r x) (y:kM u {l with heap:=l.heap.setIfInBounds e c} e Y):
  Step u f l u (f.set e Y) {l with heap:=l.heap.setIfInBounds e c}:=
 .other a e Y rfl rfl rfl a9a (λC _ z=>a7N (a4F z)) (.inr d) (a.H9 k o) y
theorem tm (y:Program) (d b:Nat) (r:TypeId) (k:Nat×Nat): ∀(o:List Value) (a:Nat) (c:Array Value) (h:World),h.heap[d]? =some (.cells c r k)->(∀p,p<c.size-> ¬(k.1<=p/\p<k.2))->b+a+o.length<=c.size->(∀v∈o,v.oneCell'=true)->
  (storeCells ⟨d,b,none⟩ o a).run y h= .ok () (h.setRow d (c.toList.take (b+a)++o++c.toList.drop (b+a+o.length)).toArray)
 | [],a,c,h,x,_,_,_=>by
  simp only[storeCells,a5B,a4G,a6w,a5e,Array.toArray_toList];rw[setRow_self h d c r k x];rfl
 |v::rest,a,c,h,x,C,z,h1=>by
  have L:b+a<c.size:=by simp at z;omega
  have P:(⟨d,b,none⟩:Addr).add a=⟨d,b+a,none⟩:=by unfold Addr.add;simp
  have S:h.cell? ⟨d,b+a,none⟩=some c[b+a]:=by simp[World.cell?,x]
  have T:h.frozen? ⟨d,b+a,none⟩=false:=by grind[World.frozen?,Bool.and_eq_false_iff,decide_eq_false_iff_not]
  have D:(store ((⟨d,b,none⟩:Addr).add a) v).run y h= .ok () (h.setRow d (c.setIfInBounds (b+a) v)):=by grind[run_store,setCell_eq_setRow]
  have ih:=tm y d b r k rest (a+1) (c.setIfInBounds (b+a) v) (h.setRow d (c.setIfInBounds (b+a) v)) (setRow_heap h d c _ r _ x) (λp E=>C p (by simpa using E)) (by simp at z|-;omega) (λF G=>h1 F (by simp[G]));simp only[storeCells,Sem.run_bind,D,Result.andThen_ok,ih,setRow_setRow];congr 3;have V:=list_seg_step c.toList (b+a) v rest (by simp at z|-;omega);grind
def vG (b:Nat): ∀a,a<b-> ¬(((0,0):Nat×Nat).1<=a/\a<((0,0):Nat×Nat).2):=λa _=>by simp
section
structure Src (a:Program) (w:World) (k m:Nat) (x:Value) (b:List Value):Prop where
 len:(Builtin.lenOf x).run a w= .ok m w
 cells:(Builtin.firstCells k m x).run a w= .ok b.toArray w
 Ha:(Builtin.firstCells k m x).run a w.drew= .ok b.toArray w.drew
 size:b.length=m*k
def A8 (b:World) (z C S D:TypeId) (c:TypeInfo) (T:m.underlying z=some (.slice D)) (p:TypeDesc) (V:m.underlying C=some p) (W:(∃E,p= .slice E)\/p= .string)
  (e:m.info? D=some c) (d a r:Nat) (k:Array Value) (F:TypeId) (o:Nat×Nat) (f:b.heap[d]? =some (.cells k F o)) (g: ∀x,x<k.size-> ¬(o.1<=x/\x<o.2))
  (y:Nat) (G:Value) (h:List Value) (L:Src m b c.size y G h) (i: ∀j∈h,j.oneCell'=true) (l:a+y<=r) (t:a*c.size+h.length<=k.size):
  (Builtin.append_ #[z,C] S #[.slice (some ⟨d,0,none⟩) a r,G]).run m b= .ok (.slice (some ⟨d,0,none⟩) (a+y) r) (b.setRow d (dh k (a*c.size) h)):=by
 have P:=tm m d (a*c.size) F o h 0 k b f g (by trivial) i;simp only[a6w]at P;have n:(storeCells ⟨d,a*c.size,none⟩ h).run m b= .ok () (b.setRow d (dh k (a*c.size) h)):=by rw[P];rfl
 have q:=λs=>run_underlying V s;rcases W with ⟨E,rfl⟩|rfl<;>simp[Builtin.append_,run_underlying T,q,sizeOf,typeInfo,e,L.len,l,L.cells,Addr.add_lit,n]
def Hb (b:World) (C D T E:TypeId) (c:TypeInfo) (V:m.underlying C=some (.slice E)) (r:TypeDesc) (W:m.underlying D=some r) (e:(∃F,r= .slice F)\/r= .string)
  (f:m.info? E=some c) (d h a x:Nat) (o:Array Value) (G:TypeId) (p:Nat×Nat) (g:b.heap[d]? =some (.cells o G p)) (i: ∀y,y<o.size-> ¬(p.1<=y/\y<p.2))
  (z:Nat) (L:Value) (k:List Value) (P:Src m b c.size z L k) (j: ∀l∈k,l.oneCell'=true) (n:a+z<=x) (u:h+a*c.size+k.length<=o.size):
  (Builtin.append_ #[C,D] T #[.slice (some ⟨d,h,none⟩) a x,L]).run m b= .ok (.slice (some ⟨d,h,none⟩) (a+z) x) (b.setRow d (dh o (h+a*c.size) k)):=by
 have S:=tm m d (h+a*c.size) G p k 0 o b g i (by trivial) j;simp only[a6w]at S;have q:(storeCells ⟨d,h+a*c.size,none⟩ k).run m b= .ok () (b.setRow d (dh o (h+a*c.size) k)):=by rw[S];rfl
 have s:=λt=>run_underlying W t;rcases e with ⟨F,rfl⟩|rfl<;>simp[Builtin.append_,run_underlying V,s,sizeOf,typeInfo,f,P.len,n,P.cells,Addr.add_mid,q]
theorem pS (c:World) (r x G k:TypeId) (d:TypeInfo) (y:Value) (L:m.underlying r=some (.slice k)) (o:TypeDesc) (P:m.underlying x=some o) (S:(∃z,o= .slice z)\/o= .string)
  (T:m.info? k=some d) (V:d.zero=some y) (C:Option Addr) (a h:Nat) (p:List Value) (q:p.length=a*d.size)
  (W:(Builtin.firstCells d.size a (.slice C a h)).run m c.drew= .ok p.toArray c.drew)
  (b:Nat) (D:Value) (E:List Value) (F:Src m c d.size b D E) (e:h<a+b) (s:((a+b:Nat):Int)<=9223372036854775807) (f:(a+b)*d.bytes<=140737488355328):
  (Builtin.append_ #[r,x] G #[.slice C a h,D]).run m c=
   .ok (.slice (some ⟨c.heap.size,0,none⟩) (a+b) (grownCap c (a+b) h k))
    (c.drew.alloc (.cells (p.toArray++E.toArray++Builtin.zeroCells y.cells (grownCap c (a+b) h k -(a+b))) k)):=by
 have g: ¬(a+b<=h):=a8Z;have i: ¬(9223372036854775807<((a)+(b:Int))):=a8Z;have j: ¬(281474976710656<Builtin.nextslicecap (a+b) h*d.bytes):=by have:=growslice_fits e f;omega
 have l:=λn=>run_underlying P n;rcases S with ⟨z,rfl⟩|rfl
 all_goals
  simp[Builtin.append_,run_underlying L,l,sizeOf,typeInfo,zeroValue,T,V,F.len,g,i,j,Question.forced,F.Ha,W,newRow,grownCap];grind
end
abbrev Fr:=Nat->R
def lF (b:Fr) (c:Nat) (d:R):Fr:=λa=>if a=c then d else b a
def dk (b:Fr) (a:Option Nat) (c:R):Fr:=
 match a with
 |some a=>lF b a c
 |none=>b
def cT:Value->R
 | .slice none 0 0=> .J [] .nil
 |a=> .v a
def ofConst:Value->R
 | .agg cs=> .agg (cs.toList.map cT)
 | .tuple cs=> .aK (cs.toList.map cT)
 |a=>cT a
def rl:Value->Bool
 | .agg cs=>cs.toList.all (·.oneCell')
 | .tuple cs=>cs.toList.all (·.oneCell')
 |a=>a.oneCell'
def aQ:Operand->Bool
 | .const v=>rl v
 | _=>true
def ak (a:Fr):Operand->R
 | .tmp b=>a b
 | .const v=>ofConst v
 | .global c=> .ptr c 0
 | .func d=> .bG d [] []
theorem aY.cT (b:bl) (a:Value) (c:a.oneCell'=true):aY b a (cT a):=by
 unfold Go.bx.cT;split
 .exact .dg _ _ _ (λ_=>rfl) rfl
 .exact .v a c
def nK (a:Value):(cT a).one=true:=by unfold cT;split<;>rfl
def br.oN (c:bl) (b:Array Value) (k: ∀a∈b.toList,a.oneCell'=true):br c b (b.toList.map Go.bx.cT):=by
 refine br.dP.2 ⟨a9a,λp a o d h=> ?_⟩;rw[a4X,d]at h;obtain rfl:cT a=o:=by simpa using h
 exact aY.cT c a (k a (a4D d))
def aY.ofConst (d:bl) (a:Value) (c:rl a=true):aY d a (ofConst a):=by
 cases a<;>first
  |exact aY.cT d _ c
  |skip
 case agg b=>
  have h: ∀a∈b.toList,a.oneCell'=true:=by simp only[rl,a4O]at c;exact c
  obtain⟨k,o⟩:=br.oN d b h;refine .agg b _ (λr p=> ?_) k o;obtain⟨a,_,rfl⟩:=a4R.1 p;exact nK a
 case tuple b=>
  have h: ∀a∈b.toList,a.oneCell'=true:=by simp only[rl,a4O]at c;exact c
  obtain⟨k,o⟩:=br.oN d b h;exact .aK b _ k o
def bK (b:bl) (c:Act) (d:Fr):Prop:= ∀a,aY b (c.tmps.getD a undef) (d a)
theorem bK.ak {c:bl}{d:Act}{h:Fr} (a:bK c d h) (b:Operand) (k:aQ b=true):aY c (d.eval b) (ak h b):=by
 cases b with
 |tmp o=>exact a o
 |const v=>exact aY.ofConst c v k
 |global p=>exact .ptr p 0
 |func r=>exact .bG r #[] #[] [] [] rfl (λx y a=>by simp at a) rfl (λx y a=>by simp at a)
def bK.mono {b c:bl}{a:Act}{d:Fr} (h:bK b a d) (k:b.le c):bK c a d:=λo=>(h o).mono k
theorem bK.put {d:bl}{a:Act}{h:Fr} (k:bK d a h) (b:Option Nat) (r: ∀c,b=some c->c<a.tmps.size) {v:Value}{o:R} (x:aY d v o):bK d (a.put b v) (dk h b o):=by
 cases b with
 |none=>exact k
 |some b=>
  intro c;have y:=r b rfl;by_cases p:c=b;simp_all [dk,lF,Act.put]
  .simp only[dk,lF,if_neg p,Act.put];rw[a5t,a7N (a4F p),<-a5t];exact k c
def aX (b:Bool) (c:Nat) (a:List R):R:=if b then .agg (a.take c)else a.headD (.aK [])
def U.read (a:U) (l:Nat):Option (List R):=
 match a l with
 |some (.cells cs)=>some cs
 |some (.ro cs)=>some cs
 |some (.oJ _ cs)=>some cs
 |some (.fB cs)=>some cs
 | _=>none
def ed (a b:Nat) (c:List R):List R:=if a=1 then c.take b else(List.range b).map λd=> .agg ((c.drop (d*a)).take a)
def hF (d:BinOp) (a:IntKind) (c b:Int):Option Value:=
 match d with
 | .add=>some (.int a (a.wrap (c+b)))
 | .sub=>some (.int a (a.wrap (c - b)))
 | .mul=>some (.int a (a.wrap (c*b)))
 | .quo=>if b=0 then none else some (.int a (a.wrap (c.tdiv b)))
 | .rem=>if b=0 then none else some (.int a (c.tmod b))
 | .and=>some (.int a (a.wrap (BitVec.ofInt a.bits c&&&BitVec.ofInt a.bits b).toNat))
 | .or=>some (.int a (a.wrap (BitVec.ofInt a.bits c|||BitVec.ofInt a.bits b).toNat))
 | .xor=>some (.int a (a.wrap (BitVec.ofInt a.bits c^^^BitVec.ofInt a.bits b).toNat))
 | .andNot=>some (.int a (a.wrap (BitVec.ofInt a.bits c&&& ~~~(BitVec.ofInt a.bits b)).toNat))
 | .eql=>some (.bool (decide (c=b)))
 | .neq=>some (.bool (decide (c≠b)))
 | .lss=>some (.bool (decide (c<b)))
 | .leq=>some (.bool (decide (c<=b)))
 | .gtr=>some (.bool (decide (b<c)))
 | .geq=>some (.bool (decide (b<=c)))
 | _=>none
def nL (d:BinOp) (a:IntKind) (c b:Int):Option Value:=
 if b<0 then none else
 match d with
 | .shl=>some (.int a (a.wrap (c*2^(min b.toNat a.bits))))
 | .shr=>some (.int a (c.fdiv (2^(min b.toNat a.bits))))
 | _=>none
def fq:BinOp->Bool
 | .shl| .shr=>true
 | _=>false
def pT (c:BinOp) (a b:ByteArray):Option Value:=
 match c with
 | .add=>if a.size+b.size<=9223372036854775807 then some (.string (a++b))else none
 | .eql=>some (.bool (a.toList==b.toList))
 | .neq=>some (.bool (!(a.toList==b.toList)))
 | .lss=>some (.bool (Op.bytesLess a.toList b.toList))
 | .leq=>some (.bool (Op.bytesLess a.toList b.toList||a.toList==b.toList))
 | .gtr=>some (.bool (!(Op.bytesLess a.toList b.toList||a.toList==b.toList)))
 | .geq=>some (.bool (!(Op.bytesLess a.toList b.toList)))
 | _=>none
def bn (a:BinOp):Value->Value->Option Value
 | .int b c,.int h d=>if fq a then nL a b c d else if b=h then hF a b c d else none
 | .string k,.string o=>pT a k o
 | _,_=>none
def nM (b:UnOp):Value->Option Value
 | .bool d=>match b with| .not=>some (.bool !d)| _=>none
 | .int a c=>match b with
  | .neg=>some (.int a (a.wrap (0 - c)))
  | .xor=>some (.int a (a.wrap (BitVec.ofInt a.bits (if a.signed then -1 else a.max)^^^BitVec.ofInt a.bits c).toNat))
  | _=>none
 | _=>none
noncomputable def peq (a b:R):Bool:= @decide (a=b) (Classical.propDecidable _)
def rm (a b:R):peq a b=true↔a=b:=by simp[peq]
inductive c8 where
 |int (k:IntKind)
 |bool
 |str
 deriving DecidableEq
def c8.fit:c8->Value->Prop
 | .int a,.int b _=>a=b
 | .bool,.bool _=>True
 | .str,.string _=>True
 | _,_=>False
def c8.tn:c8->R->Prop
 | .int a,.v (.int b _)=>a=b
 | .bool,.v (.bool _)=>True
 | .str,.v (.string _)=>True
 | _,_=>False
def dA:List (Nat×c8)->List R->Prop
 | [],cs=>cs= []
 |(a,b)::c,cs=>a<=cs.length/\(∀d∈cs.take a,b.tn d)/\dA c (cs.drop a)
noncomputable def dC:List (R×R×Nat)->R->Nat->Option (Nat×R)
 | [],_,_=>none
 |a::us,b,c=>if peq b a.1 then some (c,a.2.1)else dC us b (c+1)
noncomputable def kN (a:List (R×R×Nat)) (c v:R) (b:Nat):List (R×R×Nat)×Nat:=
 match dC a c 0 with
 |some (h,_)=>(a.modify h λd=>(d.1,v,d.2.2),b)
 |none=>(a++ [(c,v,b)],b+1)
def Hc (a:List (R×R×Nat)) (b:Int):Option Nat:=a.findIdx? λc=>(c.2.2:Int)==b
def rn (b:List (Nat×c8)) (c:List (R×R×Nat)):Prop:= ∀d∈c,∃a,d.1= .agg a/\dA b a
inductive cb where
 |eZ (x:Operand)
 |pick (c a b:Operand)
 |alloc (T:TypeId) (zero:List R)
 |box (T:TypeId) (x:Operand)
 |kd (T:TypeId) (x:Operand)
 |load (agg:Bool) (n:Nat) (x:Operand)
 |store (n:Nat) (x y:Operand)
 |pU (x:Operand)
 |kO (off:Nat) (x:Operand)
 |pV (k len:Nat) (x i:Operand)
 |dG (k:Nat) (x i:Operand)
 |pW (agg:Bool) (k len:Nat) (x i:Operand)
 |lG (x i:Operand)
 |lH (zero:List R) (parts:List (Nat×Nat×Operand))
 |ke (k:Nat) (xs:List Operand)
 |oO (k:Nat) (x:Operand) (aU aV:Option Operand)
 |kf (k n:Nat) (x:Operand) (aU aV:Option Operand) (ro:Bool)
 |ju (k n:Nat) (x:Operand) (aU aV:Option Operand)
 |len (x:Operand)
 |pX (x:Operand)
 |bin (op:BinOp) (x y:Operand)
 |eqv (neg:Bool) (bI:List (Nat×c8)) (x y:Operand)
 |pY (neg:Bool) (x y:Operand)
 |un (op:UnOp) (x:Operand)
 |iN (k:IntKind) (x:Operand)
 |app (k bytes:Nat) (x y:Operand)
 |fT (fn:FuncId) (args:List Operand)
 |ext (x:Operand) (i:Nat)
 |lI (d:Bool) (k:IntKind) (x y:Operand)
 |pZ (x:Operand)
 |kg (k bytes:Nat) (z:List R) (x y:Operand)
 |mA (k:Nat) (x y:Operand)
 |mB (neg:Bool) (x:Operand)
 |kh (k:Nat) (xs:List Operand)
 |lJ (k bytes:Nat) (x y:Operand)
 |q0 (x:Operand)
 |bG (fn:FuncId) (first cap:List Operand)
 |iO (x:Operand) (args:List Operand)
 |q1 (t:TypeId) (x:Operand)
 |mC (x:Operand)
 |ki (x:Operand)
 |mD (x:Operand)
 |kj
 |lK (ok:Bool) (rs:List (Nat×c8)) (z:R) (x k:Operand)
 |lL (rs:List (Nat×c8)) (x k v:Operand)
 |mE (x:Operand)
 |lM (k:Nat) (x:Operand) (aU aV d:Option Operand)
 |mF (k:Nat) (z:List R) (x:Operand)
 |mG (k:Nat) (x y:Operand)
 |mH (k bytes:Nat) (z:List R) (x y:Operand)
 |mI (x y:Operand)
def gf (a:Program) (b:FuncId):Bool:=
 match a.funcs[b]? with
 |some fn=>fn.body.isSome&&fn.name != "runtime.NumGoroutine"
 |none=>false
structure Ctx where
 p:Program
 k:R->U->Prop
@[reducible] def Ctx.of (a:Program):Ctx:=⟨a,λ_ _=>False⟩
def kk (a:Fr) (b:List R):List (Nat×Nat×Operand)->(List R->Prop)->Prop
 | [],c=>c b
 |(off,cm,d)::h,c=>(ak a d).cells.length=cm/\off+cm<=b.length/\kk a (putAt b off (ak a d).cells) h c
def al (a:UInt8):R:= .v (.int .u8 a.toNat)
def byteOf:R->Option UInt8
 | .v (.int .u8 a)=>if 0<=a/\a<256 then some (UInt8.ofNat a.toNat)else none
 | _=>none
def bytesOf:List R->Option (List UInt8)
 | []=>some []
 |a::b=>match byteOf a,bytesOf b with
  |some c,some aP=>some (c::aP)
  | _,_=>none
def Hd (a:UInt8):byteOf (al a)=some a:=by have c:=a.toNat_lt;have b:(0)<=(a.toNat:Int)/\(a.toNat:Int)<256:=a8Z;simp[byteOf,al,b]
def rp: ∀a:List UInt8,bytesOf (a.map al)=some a
 | []=>rfl
 |b::a=>by simp[bytesOf,Hd,rp a]
def da (b:Fr) (a:Option Operand) (c:Nat):Option Int:=
 match a with
 |none=>some c
 |some a=>match ak b a with
  | .v (.int _ d)=>some d
  | _=>none
def vH (a:Own) (b c:Option Operand):Own:=
 match b,c with
 |none,none=>a
 | _,_=> .any
def q2 (k:Bool) (c a d h b:Nat):R:=if k=true then .bA c (a*b) (d - a) (h - a) b else .an c d h b
def bN (k:U) (a:Nat) (o:R):Option (Nat×List R):=
 match o with
 | .J c _=>if c.all (λp=>decide (p.cells.length=a))=true then some (c.length,flat c)else none
 | .an d b _ h=>match k.read d with
  |some cs=>if h=a/\b*a<=cs.length then some (b,cs.take (b*a))else none
  |none=>none
 | .bA d off b _ h=>match k.read d with
  |some cs=>if h=a/\off+b*a<=cs.length then some (b,(cs.drop off).take (b*a))else none
  |none=>none
 | _=>none
def mJ (d:U) (b:Nat) (a:R):Option (Nat×List R):=
 match a with
 | .v (.string c)=>if b=1 then some (c.size,c.data.toList.map al)else none
 |a=>bN d b a
def vI {a:Nat×List R} (b:bN f e n=some a):mJ f e n=some a:=by
 unfold mJ;split
 .trivial
 .exact b
def vJ (a:U) (b:Nat):Bool:=
 match a b with
 |some (.cells _)=>true
 |some (.oJ _ _)=>true
 | _=>false
def rq:R->Option R
 | .an _ _ cap _=>some (.v (.int .i64 cap))
 | .J [] .nil=>some (.v (.int .i64 0))
 | _=>none
def rr (c:Fr) (h:Nat) (y:R) (k o p:Option Operand):Option R:=
 match y with
 | .an r len cap x=>match da c k 0,da c o len,da c p cap with
  |some a,some d,some b=>if x=h/\0<=a/\a<=d/\d<=b/\b<=cap then
    some (if k.isSome=true then(if a<b then .bA r (a.toNat*h) (d.toNat - a.toNat) (b.toNat - a.toNat) h else .J [] .zero)else .an r d.toNat b.toNat h)
   else none
  | _,_,_=>none
 | .bA r off len cap x=>match da c k 0,da c o len,da c p cap with
  |some a,some d,some b=>if x=h/\0<=a/\a<=d/\d<=b/\b<=cap then
    some (if a<b then .bA r (off+a.toNat*h) (d.toNat - a.toNat) (b.toNat - a.toNat) h else .J [] .zero)
   else none
  | _,_,_=>none
 | .J [] .nil=>match da c k 0,da c o 0,da c p 0 with
  |some a,some d,some b=>if a=0/\d=0/\b=0 then some (.J [] .nil)else none
  | _,_,_=>none
 | .J [] .zero=>match da c k 0,da c o 0,da c p 0 with
  |some a,some d,some b=>if a=0/\d=0/\b=0 then some (.J [] .zero)else none
  | _,_,_=>none
 | _=>none
def kP (b:Nat) (h:List R) (k:R) (a:U):Option U:=
 match k with
 | .bA c off d _ o=>match a c with
  |some (.cells cs)=>if o=b/\off+d*b<=cs.length then some (a.set c (.cells (putAt cs off (List.replicate d h).flatten)))else none
  | _=>none
 | .J [] _=>some a
 | _=>none
def lN (a:Nat) (p r:R) (c:U):Option (R×U):=
 match bN c a r with
 |some (k,o)=>match p with
  | .bA d off b _ h=>match c d with
   |some (.cells cs)=>if h=a/\off+b*a<=cs.length then some (.v (.int .i64 (min k b:Nat)),c.set d (.cells (putAt cs off (o.take (b*a)))))else none
   | _=>none
  | .an d b _ h=>match c d with
   |some (.cells cs)=>if h=a/\b*a<=cs.length then some (.v (.int .i64 (min k b:Nat)),c.set d (.cells (putAt cs 0 (o.take (b*a)))))else none
   | _=>none
  | .J [] _=>some (.v (.int .i64 0),c)
  | _=>none
 |none=>none
def cK:R->Option Nat
 | .an a _ _ _=>some a
 | .bA a _ _ _ _=>some a
 | _=>none
def kl (a:U) (b:Nat):Bool:=
 match a b with
 |some (.cells (_:: _))=>true
 | _=>false
def kQ (d h:R) (a:U):Option R:=
 match cK d,cK h with
 |some b,some c=>if b≠c/\kl a b=true/\kl a c=true then some (.v (.bool false))else none
 | _,_=>none
def G (i:Ctx) (j:cb) (d:Fr) (a:U) (k:R->U->Prop):Prop:=
  match j with
  | .eZ h=>k (ak d h) a
  | .pick m y z=>match ak d m with
    | .v (.bool P)=>k (if P then ak d y else ak d z) a
    | _=>False
  | .alloc _ zero=> ∀o,a o=none->k (.ptr o 0) (a.set o (.cells zero))
  | .box _ h=>0<(ak d h).cells.length/\ ∀o,a o=none->k (.ptr o 0) (a.set o (.cells (ak d h).cells))
  | .kd _ h=>0<(ak d h).cells.length/\ ∀o,a o=none->k (.ptr o 0) (a.set o (.ro (ak d h).cells))
  | .load agg b h=>match ak d h with
    | .ptr o off=>match a.read o with
      |some p=>off+b<=p.length/\k (aX agg b (p.drop off)) a
      |none=>False
    | .bV p=>b<=p.length/\k (aX agg b p) a
    | _=>False
  | .store b h C=>match ak d h with
    | .ptr o off=>match a o with
      |some (.cells p)=>(ak d C).cells.length=b/\off+b<=p.length/\k (.aK []) (a.set o (.cells (putAt p off (ak d C).cells)))
      | _=>False
    | _=>False
  | .pU h=>match ak d h with
    | .ptr o off=>k (.ptr o off) a
    | .bV p=>k (.bV p) a
    | .bG b cJ p=>k (.bG b cJ p) a
    | _=>False
  | .kO off h=>match ak d h with
    | .ptr o S=>k (.ptr o (S+off)) a
    | .bV p=>k (.bV (p.drop off)) a
    | _=>False
  | .pV c len h e=>match ak d h,ak d e with
    | .ptr o S,.v (.int _ b)=>0<=b/\b<len/\k (.ptr o (S+b.toNat*c)) a
    | .bV p,.v (.int _ b)=>0<=b/\b<len/\k (.bV (p.drop (b.toNat*c))) a
    | _,_=>False
  | .dG c h e=>match ak d h,ak d e with
    | .J xs _,.v (.int _ b)=>0<=b/\match xs[b.toNat]? with
      |some V=>V.cells.length=c/\k (.bV V.cells) a
      |none=>False
    | .bA o off len _ L,.v (.int _ b)=>L=c/\0<=b/\b<len/\k (.ptr o (off+b.toNat*c)) a
    | .an o len _ L,.v (.int _ b)=>L=c/\0<=b/\b<len/\k (.ptr o (b.toNat*c)) a
    | _,_=>False
  | .pW agg c len h e=>match ak d h,ak d e with
    | .agg p,.v (.int _ b)=>0<=b/\b<len/\b.toNat*c+c<=p.length/\k (aX agg c (p.drop (b.toNat*c))) a
    | _,_=>False
  | .lG h e=>match ak d h,ak d e with
    | .v (.string P),.v (.int _ b)=>0<=b/\match P.data[b.toNat]? with
      |some z=>k (.v (.int .u8 z.toNat)) a
      |none=>False
    | _,_=>False
  | .lH zero parts=>kk d zero parts λp=>k (.agg p) a
  | .ke c xs=>(∀V∈xs.map (ak d),V.cells.length=c)/\
      (if xs.length=0 then k (.J [] .zero) a else∀x,a x=none->k (.J (xs.map (ak d)) (.buf x xs.length)) (a.set x (.buf c xs.length xs.length)))
  | .oO c h aU aV=>match ak d h with
    | .J xs S=>match da d aU 0,da d aV xs.length with
      |some y,some z=>0<=y/\y<=z/\z<=xs.length/\(∀V∈xs,V.cells.length=c)/\k (.J ((xs.take z.toNat).drop y.toNat) (vH S aU aV)) a
      | _,_=>False
    | .bA o off len D L=>match da d aU 0,da d aV len with
      |some y,some z=>L=c/\0<=y/\y<=z/\z<=len/\y<len/\k (.bA o (off+y.toNat*c) (z.toNat - y.toNat) (D - y.toNat) c) a
      | _,_=>False
    | .an o len D L=>match da d aU 0,da d aV len with
      |some y,some z=>L=c/\0<=y/\y<=z/\z<=len/\(aU.isSome=true->y<len)/\k (q2 aU.isSome o y.toNat z.toNat D c) a
      | _,_=>False
    | _=>False
  | .kf c b h aU aV ro=>match ak d h with
    | .ptr o off=>match da d aU 0,da d aV b with
      |some y,some z=>0<=y/\y<=z/\z<=b/\match a.read o with
        |some p=>off+b*c<=p.length/\
          (if ro then k (.J (ed c (z.toNat - y.toNat) (p.drop (off+y.toNat*c))) .any) (a.set o (.ro p))else y<b/\k (.bA o (off+y.toNat*c) (z.toNat - y.toNat) (b - y.toNat) c) a)
        |none=>False
      | _,_=>False
    | _=>False
  | .ju c b h aU aV=>match ak d h with
    | .ptr o off=>match da d aU 0,da d aV b with
      |some y,some z=>0<=y/\y<=z/\z<=b/\match a o with
        |some (.ro p)=>off+b*c<=p.length/\k (.J (ed c (z.toNat - y.toNat) (p.drop (off+y.toNat*c))) .any) a
        | _=>False
      | _,_=>False
    | _=>False
  | .len h=>match ak d h with
    | .J xs _=>k (.v (.int .i64 xs.length)) a
    | .bA _ _ b _ _=>k (.v (.int .i64 b)) a
    | .an _ b _ _=>k (.v (.int .i64 b)) a
    | _=>False
  | .pX h=>match ak d h with
    | .v (.string P)=>k (.v (.int .i64 P.size)) a
    | _=>False
  | .bin j h C=>match ak d h,ak d C with
    | .v y,.v z=>match bn j y z with
      |some W=>k (.v W) a
      |none=>False
    | _,_=>False
  | .eqv neg bI h C=>match ak d h,ak d C with
    | .agg p,.agg cJ=>dA bI p/\dA bI cJ/\k (.v (.bool (xor neg (peq (.agg p) (.agg cJ))))) a
    | _,_=>False
  | .pY neg h C=>match ak d h,ak d C with
    | .ptr _ _,.v (.pointer none)=>k (.v (.bool neg)) a
    | .bV _,.v (.pointer none)=>k (.v (.bool neg)) a
    | .v (.pointer none),.v (.pointer none)=>k (.v (.bool (!neg))) a
    | .ptr o S,.ptr s t=>(o=s/\S=t)/\k (.v (.bool (!neg))) a
    | _,_=>False
  | .un j h=>match ak d h with
    | .v y=>match nM j y with
      |some W=>k (.v W) a
      |none=>False
    | _=>False
  | .iN c h=>match ak d h with
    | .v (.int _ b)=>k (.v (.int c (c.wrap b))) a
    | _=>False
  | .app c bytes h C=>match ak d h,ak d C with
    | .J xs S,.J E _=>(∀V∈xs,V.cells.length=c)/\(∀V∈E,V.cells.length=c)/\(xs.length+E.length)*bytes<=140737488355328/\xs.length+E.length<=9223372036854775807/\
      match S with
      | .buf x m=>a x=some (.buf c xs.length m)/\ ∀g l,(g=x\/a g=none)->k (.J (xs++E) (.buf g l)) ((a.del x).set g (.buf c (xs.length+E.length) l))
      | .any=>False
      | _=>xs= []/\(if E= []then k (.J [] S) a else∀g l,a g=none->k (.J E (.buf g l)) (a.set g (.buf c E.length l)))
    | _,_=>False
  | .fT fn args=>hE i.p fn (args.map (ak d)) a k (up i.k)
  | .ext h e=>match ak d h with
    | .aK u=>match u[e]? with
      |some W=>k W a
      |none=>False
    | _=>False
  | .lI n _ h C=>match ak d h,ak d C with
    | .v (.int c y),.v (.int L z)=>c=L/\k (.v (.int c (if n then max y z else min y z))) a
    | _,_=>False
  | .pZ h=>match ak d h with
    | .J xs _=>match bytesOf xs with
      |some o=>k (.v (.string ⟨o.toArray⟩)) a
      |none=>False
    | _=>False
  | .kg c bytes f h C=>match ak d h,ak d C with
    | .v (.int _ b),.v (.int _ r)=>b=r/\0<=b/\b<=9223372036854775807/\b*bytes<=281474976710656/\ ∀x,a x=none->k (.an x b.toNat b.toNat c) (a.set x (.cells (List.replicate b.toNat f).flatten))
    | _,_=>False
  | .mA c h C=>match ak d h,ak d C with
    | .bA o off b _ L,.J E _=>L=c/\(∀V∈E,V.cells.length=c)/\match a o with
      |some (.cells p)=>off+b*c<=p.length/\k (.v (.int .i64 (min E.length b))) (a.set o (.cells (putAt p off (flat (E.take b)))))
      | _=>False
    | .an o b _ L,.J E _=>L=c/\(∀V∈E,V.cells.length=c)/\match a o with
      |some (.cells p)=>b*c<=p.length/\k (.v (.int .i64 (min E.length b))) (a.set o (.cells (putAt p 0 (flat (E.take b)))))
      | _=>False
    | _,_=>False
  | .kh c xs=>(∀V∈xs.map (ak d),V.cells.length=c)/\
      (if xs.length=0 then k (.J [] .zero) a else∀x,a x=none->k (.an x xs.length xs.length c) (a.set x (.cells (flat (xs.map (ak d))))))
  | .lJ c bytes h C=>match mJ a c (ak d C)with
    |some (r,E)=>match ak d h with
      | .J xs S=>xs= []/\(S= .nil\/S= .zero)/\r*bytes<=140737488355328/\r<=9223372036854775807/\
        (if r=0 then k (.J [] S) a else∀x D T,a x=none->r<=D->D<=maxLen->T.length=(D - r)*c->k (.an x r D c) (a.set x (.cells (E++T))))
      | .an o b D L=>match a o with
        |some (.cells p)=>L=c/\p.length=D*c/\(b+r)*bytes<=140737488355328/\b+r<=9223372036854775807/\
          (if b+r<=D then k (.an o (b+r) D c) (a.set o (.cells (putAt p (b*c) E)))
           else∀x F T,a x=none->b+r<=F->F<=maxLen->T.length=(F -(b+r))*c->k (.an x (b+r) F c) (a.set x (.cells (p.take (b*c)++E++T))))
        |some (.fB p)=>L=c/\p.length=D*c/\(b+r)*bytes<=140737488355328/\b+r<=9223372036854775807/\
          (if b+r<=D then k (.an o (b+r) D c) (a.set o (.fB (putAt p (b*c) E)))
           else∀x F T,a x=none->b+r<=F->F<=maxLen->T.length=(F -(b+r))*c->k (.an x (b+r) F c) (a.set x (.cells (p.take (b*c)++E++T))))
        | _=>False
      | .bA o off b D L=>match a o with
        |some (.cells p)=>L=c/\off+D*c<=p.length/\(b+r)*bytes<=140737488355328/\b+r<=9223372036854775807/\
          (if b+r<=D then k (.bA o off (b+r) D c) (a.set o (.cells (putAt p (off+b*c) E)))
           else∀x F T,a x=none->b+r<=F->F<=maxLen->T.length=(F -(b+r))*c->k (.an x (b+r) F c) (a.set x (.cells ((p.drop off).take (b*c)++E++T))))
        | _=>False
      | _=>False
    |none=>False
  | .q0 h=>match ak d h with
    | .v (.string P)=>k (.J (P.data.toList.map al) .any) a
    | _=>False
  | .bG fn first D=>k (.bG fn (first.map (ak d)) (D.map (ak d))) a
  | .iO h args=>match ak d h with
    | .bG fn cJ p=>gf i.p fn=true/\hE i.p fn (cJ++args.map (ak d)++p) a k (up i.k)
    | _=>False
  | .q1 P h=>k (.iface P (ak d h)) a
  | .mC h=>match ak d h with
    | .iface P C=>up i.k (.iface P C) a
    | _=>False
  | .ki h=>match ak d h with
    | .v (.string P)=> ∀o,a o=none->k (.ptr o 0) (a.set o (.it P 0))
    | _=>False
  | .mD h=>match ak d h with
    | .ptr o off=>off=0/\match a o with
      |some (.it P pos)=>if pos<P.size then k (.aK [.v (.bool true),.v (.int .i64 pos),.v (.int .i32 (Utf8.decode P pos).1)]) (a.set o (.it P (pos+(Utf8.decode P pos).2)))else k (.aK [.v (.bool false)]) a
      | _=>False
    | _=>False
  | .kj=> ∀o,a o=none->k (.gQ o) (a.set o (.mp [] 0))
  | .lK ok rs f h c=>match ak d h,ak d c with
    | .gQ o,.agg p=>match a o with
      |some (.mp us _)=>dA rs p/\rn rs us/\(match dC us (.agg p) 0 with
        |some (_,v)=>k (if ok then .aK [v,.v (.bool true)]else v) a
        |none=>k (if ok then .aK [f,.v (.bool false)]else f) a)
      | _=>False
    | _,_=>False
  | .lL rs h c v=>match ak d h,ak d c with
    | .gQ o,.agg p=>match a o with
      |some (.mp us clock)=>dA rs p/\rn rs us/\k (.aK []) (a.set o (.mp (kN us (.agg p) (ak d v) clock).1 (kN us (.agg p) (ak d v) clock).2))
      | _=>False
    | _,_=>False
  | .mB neg h=>match ak d h with
    | .J xs S=>match S with
      | .nil=>k (.v (.bool (!neg))) a
      | .buf _ _=>k (.v (.bool neg)) a
      | _=>(xs= []->k (.v (.bool (!neg))) a)/\k (.v (.bool neg)) a
    | .an _ _ _ _=>k (.v (.bool neg)) a
    | _=>False
  | .mE h=>match rq (ak d h)with
    |some W=>k W a
    |none=>False
  | .lM c h aU aV n=>match rr d c (ak d h) aU aV n with
    |some W=>k W a
    |none=>False
  | .mF c f h=>match kP c f (ak d h) a with
    |some q=>k (.aK []) q
    |none=>False
  | .mG c h C=>match lN c (ak d h) (ak d C) a with
    |some (W,q)=>k W q
    |none=>False
  | .mI h C=>match kQ (ak d h) (ak d C) a with
    |some W=>k W a
    |none=>False
  | .mH c bytes f h C=>match ak d h,ak d C with
    | .an o b D L,.v (.int .i64 r)=>match a.read o with
      |some p=>L=c/\p.length=D*c/\0<=r/\D<b+r.toNat/\(b+r.toNat)*bytes<=140737488355328/\b+r.toNat<=9223372036854775807/\
        ∀x F T,a x=none->b+r.toNat<=F->F<=maxLen->T.length=(F -(b+r.toNat))*c->k (.an x (b+r.toNat) F c) (a.set x (.cells (p.take (b*c)++(List.replicate r.toNat f).flatten++T)))
      |none=>False
    | .J xs S,.v (.int .i64 r)=>xs= []/\S= .nil/\0<r/\r.toNat*bytes<=140737488355328/\r<=9223372036854775807/\
        ∀x F T,a x=none->r.toNat<=F->F<=maxLen->T.length=(F - r.toNat)*c->k (.an x r.toNat F c) (a.set x (.cells ((List.replicate r.toNat f).flatten++T)))
    | _,_=>False
def vK {c:Fr}{d h:List R->Prop} (k: ∀o,d o->h o): ∀(p:List (Nat×Nat×Operand)) (b:List R),kk c b p d->kk c b p h
 | [],b,a=>k _ a
 |(_,_,_)::r,_,a=>⟨a.1,a.2.1,vK k r _ a.2.2⟩
variable{e3:cb}{K:Ctx}{j:Fr}
theorem A9 (c: ∀k o,s k o->a7 k o) (a:G K e3 j f s):G K e3 j f a7:=by
 cases e3<;>simp only[G]at a|-
 case fT E p=>exact a.mono c (λ_ _ a=>a)
 case mE b=>grind
 case lM=>grind
 case mF=>grind
 case mG=>grind
 case mI=>grind
 case mH d bytes r b h=>
  grind
 case iO b p=>split at a;(exact⟨a.1,a.2.mono c (λ_ _ a=>a)⟩);trivial
 case mC=>exact a
 case ki=>grind
 case kj=>simp_all
 case lK F x r b d=>
  split at a
  case h_2=>omega
  grind
 case lL x b d v=>
  grind
 case mD b=>
  split at a
  case h_2=>omega
  grind
 case pick=>grind
 case lH L P=>exact vK (λ_ a=>c _ _ a) _ _ a
 case alloc=>simp_all
 case box=>simp_all
 case kd=>simp_all
 case kg=>grind
 case lI=>grind
 case ju d y b z C=>
  (repeat' split at a)<;>first
   |exact a.elim
   |simp_all
   |exact a.2.2.2.elim
 case mA d b h=>
  grind
 case mB S b=>
  grind
 case kh=>grind
 case lJ d bytes b h=>
  split at a
  case h_2=>omega
  split at a;grind;grind;grind
  .omega
 case ke=>grind
 case app d bytes b h=>
  grind
 case kf d y b z C T=>
  (repeat' split at a)<;>first
   |exact a.elim
   |simp_all
   |simp_all
   |exact a.2.2.2.elim
 case dG d b D=>
  grind
 case lG b D=>
  grind
 all_goals
  (repeat' split at a)<;>first
   |exact a.elim
   |exact c _ _ a
   |exact⟨a.1,c _ _ a.2⟩
   |exact⟨a.1,a.2.1,c _ _ a.2.2⟩
   |exact⟨a.1,a.2.1,a.2.2.1,c _ _ a.2.2.2⟩
   |exact⟨a.1,a.2.1,a.2.2.1,a.2.2.2.1,c _ _ a.2.2.2.2⟩
   |exact⟨a.1,a.2.1,a.2.2.1,a.2.2.2.1,a.2.2.2.2.1,c _ _ a.2.2.2.2.2⟩
def fC:List c8->List Value->Prop
 | [],[]=>True
 |a::bI,b::xs=>a.fit b/\fC bI xs
 | _,_=>False
def q3 (b:Program) (c:TypeId->Option (List c8)):List Field->Nat->Option (List c8)
 | [],_=>some []
 |a::h,off=>
  if a.offset=off/\a.name≠ "_" then
   match c a.type,q3 b c h (off+b.cellsOf a.type)with
   |some d,some k=>if b.cellsOf a.type=d.length/\(b.info? a.type).isSome then some (d++k)else none
   | _,_=>none
  else none
def flatK (a:Program):Nat->TypeId->Option (List c8)
 |0,_=>none
 |c+1,d=>
  match a.underlying d with
  |some (.int k)=>some [.int k]
  |some .bool=>some [.bool]
  |some .string=>some [.str]
  |some (.array o b)=>match flatK a c b with
   |some h=>if a.cellsOf b=h.length/\(a.info? b).isSome then some (List.replicate o h).flatten else none
   |none=>none
  |some (.struct p)=>if a.stoodInHeld d then none else q3 a (flatK a c) p.toList 0
  | _=>none
theorem nN: ∀ {a:List c8}{b:List Value},fC a b->b.length=a.length
 | [],[],_=>rfl
 | _:: _,_:: _,c=>by simp[nN c.2]
def oP: ∀ {a d:List c8}{b:List Value},fC (a++d) b->fC a (b.take a.length)/\fC d (b.drop a.length)
 | [],_,_,c=>by simp[fC];trivial
 | _:: _,_,[],c=>by trivial
 | _:: _,_,_:: _,c=>by
  obtain⟨k,h⟩:=c;obtain⟨o,p⟩:=oP h;trivial
variable{e2:IntKind}{b2:TypeId}
section
def q4 (d:Program) (y:Nat) (h:TypeId) (a:List c8):Prop:=
 ∀(z:Nat) (b:World) (k o:Array Value) (c:Nat),fC a ((k.toList.drop c).take a.length)->fC a ((o.toList.drop c).take a.length)->
  ∃p r x,(part h k c).run d b= .ok p b/\(part h o c).run d b= .ok r b/\(Op.equalIn (z+y) h p r).run d b= .ok x b/\
   (x=true↔(k.toList.drop c).take a.length=(o.toList.drop c).take a.length)
def vL {a:TypeDesc} (c:m.underlying b2=some a) (b:World):(isAgg b2).run m b= .ok a.isRow b:=by unfold isAgg;rw[Sem.run_bind,run_underlying c b];cases a<;>rfl
def lO {b:TypeDesc} (k:m.underlying b2=some b) (o:b.isRow=true) {c:TypeInfo} (p:m.info? b2=some c) (d:Array Value) (a:Nat) (h:World):
  (part b2 d a).run m h= .ok (.agg (d.extract a (a+c.size))) h:=by
 simp[part,vL k,o,sizeOf,typeInfo,p]
def nO {a:TypeDesc} (k:m.underlying b2=some a) (o:a.isRow=false) (b:Array Value) (c:Nat) (d:Value) (p:b[c]? =some d) (h:World):
  (part b2 b c).run m h= .ok d h:=by
 simp[part,vL k,o,p]
def one_cell {d:c8} (b:fC [d] ((j8.toList.drop e).take 1)): ∃a,j8[e]? =some a/\d.fit a/\(j8.toList.drop e).take 1= [a]:=by
 cases c:(j8.toList.drop e)with
 |nil=>simp[c,fC]at b
 |cons a h=>
  refine⟨a,?_,?_,a9a⟩
  .have:(j8.toList.drop e)[0]? =some a:=by simp[c]
   simpa using this
  .rw[c]at b;exact b.1
theorem He (a b:ByteArray):a.toList=b.toList↔a=b:=by
 constructor
 .intro c;rw[ByteArray.toList_eq,ByteArray.toList_eq]at c;cases a;simp_all
 .rintro rfl;rfl
def Hf (a:m.underlying b2=some (.int e2)):q4 m (e+1) b2 [.int e2]:=by
 intro h b D E F k o;obtain⟨p,r,c,x⟩:=one_cell k;obtain⟨y,z,d,C⟩:=one_cell o;rw[a5T,x,C,show h+(e+1)=(h+e)+1 by omega];cases p<;>first|exact c.elim|skip
 cases y<;>first|exact d.elim|skip
 simp only[c8.fit]at c d;subst c;subst d;exact⟨_,_,_,nO a rfl _ _ _ r b,nO a rfl _ _ _ z b,run_equalIn_int b _ b2 _ _ _ _ a,a9a⟩
def Hg (a:m.underlying b2=some .bool):q4 m (e+1) b2 [.bool]:=by
 intro c b D E F d h;obtain⟨k,o,p,r⟩:=one_cell d;obtain⟨x,y,z,C⟩:=one_cell h;rw[a5T,r,C,show c+(e+1)=(c+e)+1 by omega];cases k<;>first|exact p.elim|skip
 cases x<;>first|exact z.elim|skip
 exact⟨_,_,_,nO a rfl _ _ _ o b,nO a rfl _ _ _ y b,run_equalIn_bool' b _ b2 _ _ a,a9a⟩
def Hh (a:m.underlying b2=some .string):q4 m (e+1) b2 [.str]:=by
 intro c b D E F d h;obtain⟨k,o,p,r⟩:=one_cell d;obtain⟨x,y,z,C⟩:=one_cell h;rw[a5T,r,C,show c+(e+1)=(c+e)+1 by omega];cases k<;>first|exact p.elim|skip
 cases x<;>first|exact z.elim|skip
 exact⟨_,_,_,nO a rfl _ _ _ o b,nO a rfl _ _ _ y b,run_equalIn_string b _ b2 _ _ a,by rw[beq_iff_eq,He];simp⟩
theorem Aa {y:Nat}{o:TypeId}{a:List c8} (z:q4 m y o a) (C:m.cellsOf o=a.length) (x:Nat) (p:World) (d h:Array Value): ∀(b c:Nat),
  fC (List.replicate b a).flatten ((d.toList.drop (c*a.length)).take (List.replicate b a).flatten.length)->fC (List.replicate b a).flatten ((h.toList.drop (c*a.length)).take (List.replicate b a).flatten.length)->
  ∃k,(Op.eqItems (x+y) o (m.cellsOf o) d h (List.range' c b)).run m p= .ok k p/\
   (k=true↔(d.toList.drop (c*a.length)).take (List.replicate b a).flatten.length=(h.toList.drop (c*a.length)).take (List.replicate b a).flatten.length)
 |0,c,_,_=>⟨true,by rfl,a9a⟩
 |b+1,c,D,E=>by
  simp only[a6K,a6l]at D E|-;obtain⟨F,G⟩:=oP D;obtain⟨L,P⟩:=oP E;have W:min a.length (a++(List.replicate b a).flatten).length=a.length:=a9a;have e:(a++(List.replicate b a).flatten).length - a.length=(List.replicate b a).flatten.length:=a9a;rw[a5L,W]at F L;rw[a5P,a5l,e,show c*a.length+a.length=(c+1)*a.length by rw[a5F,a7q]]at G P;obtain⟨l,n,k,S,T,f,g⟩:=z x p d h (c*a.length) F L;obtain⟨i,q,j⟩:=Aa z C x p d h b (c+1) G P;have V: ∀r:List Value,r.take (a++(List.replicate b a).flatten).length=r.take a.length++(r.drop a.length).take (List.replicate b a).flatten.length:=λr=>by
   grind
  rw[List.range'_succ];rw[<-C]at S T;simp only[Op.eqItems,Sem.run_bind,S,T,f,Result.andThen_ok];have s:((d.toList.drop (c*a.length)).take (a++(List.replicate b a).flatten).length=(h.toList.drop (c*a.length)).take (a++(List.replicate b a).flatten).length)↔(k=true/\i=true):=by rw[V,V,a5l,a5l,show c*a.length+a.length=(c+1)*a.length by grind,g,j];grind[List.append_inj,nN]
  cases k;simp_all;simp_all
theorem Ab {C:Nat}{D:TypeId->Option (List c8)} (E: ∀o a,D o=some a->m.cellsOf o=a.length->(m.info? o).isSome->q4 m C o a) (y:Nat) (p:World) (h k:Array Value): ∀(r:List Field) (b:Nat) (d:List c8),
  q3 m D r b=some d->fC d ((h.toList.drop b).take d.length)->fC d ((k.toList.drop b).take d.length)->
  ∃c,(Op.eqFields (y+C) h k r).run m p= .ok c p/\(c=true↔(h.toList.drop b).take d.length=(k.toList.drop b).take d.length)
 | [],b,d,hk,_,_=>by
  simp_all [q3,Op.eqFields]
 |s::r,b,d,hk,e,f=>by
  simp only[q3]at hk;split at hk
  case isFalse=>cases hk
  rename_i F;split at hk
  case h_2=>cases hk
  rename_i a c g i;split at hk
  case isFalse=>cases hk
  rename_i z;obtain rfl:=a4v hk;obtain⟨G,L⟩:=oP e;obtain⟨P,S⟩:=oP f;have j:min a.length (a++c).length=a.length:=a9a;have l:(a++c).length - a.length=c.length:=a9a;rw[a5L,j]at G P;rw[a5P,a5l,l,<-z.1]at L S;obtain⟨t,u,T,V,W,n,v⟩:=E _ _ g z.1 z.2 y p h k b G P;obtain⟨q,w,A⟩:=Ab E y p h k r _ _ i L S;have B: ∀x:List Value,x.take (a++c).length=x.take a.length++(x.drop a.length).take c.length:=λx=>by
   grind
  rw[<-F.1]at V W;simp only[Op.eqFields,if_pos F.2,Sem.run_bind,V,W,n,Result.andThen_ok];have H:((h.toList.drop b).take (a++c).length=(k.toList.drop b).take (a++c).length)↔(T=true/\q=true):=by grind[List.drop_drop,List.append_inj,nN]
  cases T;simp_all;simp_all
def tp (b:Array Value) (a c:Nat):(b.extract a (a+c)).toList=(b.toList.drop a).take c:=by simp
theorem tq: ∀(d:Nat) (c:TypeId) (k:List c8),flatK m d c=some k->m.cellsOf c=k.length->(m.info? c).isSome->q4 m d c k
 |0,c,k,a,_,_=>by trivial
 |d+1,c,k,a,T,V=>by
  simp only[flatK]at a;cases hu:m.underlying c with
  |none=>simp[hu]at a
  |some desc=>
   simp only[hu]at a;cases desc<;>simp only[]at a<;>first
    |(cases a;done)
    |skip
   case int s=>obtain rfl:=a4v a;exact Hf hu
   case bool=>obtain rfl:=a4v a;exact Hg hu
   case string=>obtain rfl:=a4v a;exact Hh hu
   case array W g=>
    split at a
    case h_2=>cases a
    rename_i E i;split at a
    case isFalse=>cases a
    rename_i F;obtain rfl:=a4v a;have ih:=tq d g E i F.1 F.2;obtain⟨o,p⟩:=a5j.1 V;obtain⟨t,j⟩:=a5j.1 F.2;have G:o.size=(List.replicate W E).flatten.length:=by simpa[Program.cellsOf,p] using T
    intro y h r x b z C;have D:=Aa ih F.1 y h (r.extract b (b+o.size)) (x.extract b (b+o.size)) W 0;simp only[a7O,a6C,tp,G]at D;rw[a5L,a6H,a5L,a6H]at D;obtain⟨L,e,P⟩:=D z C;refine⟨_,_,L,lO hu rfl p r b h,lO hu rfl p x b h,?_,P⟩;rw[show y+(d+1)=(y+d)+1 by omega,run_equalIn_array h (y+d) _ _ hu j,List.range_eq_range',G];exact e
   case struct f=>
    split at a;trivial;rename_i u;obtain⟨o,p⟩:=a5j.1 V;have G:o.size=k.length:=by simpa[Program.cellsOf,p] using T
    have v:m.fieldsOf c=f:=by simp[Program.fieldsOf,hu]
    intro y h r x b z C;have D:=λr x z C=>
     Ab (λc E l n q=>tq d c E l n q) y h r x f.toList 0 k a z C
    have S:=D (r.extract b (b+o.size)) (x.extract b (b+o.size));simp only[a6C,tp,G]at S;rw[a5L,a6H,a5L,a6H]at S;obtain⟨L,e,P⟩:=S z C;refine⟨_,_,L,lO hu rfl p r b h,lO hu rfl p x b h,?_,P⟩;grind[run_equalIn_struct]
end
def jv (b:List (Nat×c8)):List c8:=b.flatMap λa=>List.replicate a.1 a.2
def mK:List c8->List (Nat×c8)
 | []=> []
 |a::bI=>match mK bI with
  |(c,b)::d=>if a=b then(c+1,b)::d else(1,a)::(c,b)::d
  | []=> [(1,a)]
theorem tr: ∀a:List c8,jv (mK a)=a
 | []=>rfl
 |b::a=>by
  have ih:=tr a;grind[mK,jv]
theorem oQ {P:bl}: ∀(C:List (Nat×c8)) (a:List R) (b:List Value),dA C a->b.length=a.length->(∀(c:Nat) (d:Value) (h:R),b[c]? =some d->a[c]? =some h->aY P d h)->
  fC (jv C) b/\a=b.map R.v
 | [],a,b,p,o,_=>by
  simp only[dA]at p;subst p;have:=a4B (by trivial);subst this;trivial
 |(r,x)::C,a,b,p,o,D=>by
  obtain⟨V,W,e⟩:=p;obtain⟨l,m⟩:=oQ C (a.drop r) (b.drop r) e (by simp[o]) (λc d h G L=>D (r+c) d h (by simpa using G) (by simpa using L));have f: ∀(y) (a) (b),b.length=a.length->a.length=y->(∀k∈a,x.tn k)->(∀(c:Nat) (d) (h),b[c]? =some d->a[c]? =some h->aY P d h)->
    (∀E F,fC F E->fC (List.replicate y x++F) (b++E))/\a=b.map R.v:=by
   intro y
   induction y with
   |zero=>grind
   |succ y ih=>
    intro a b o hm S D
    match a,b,o,hm with
    |k::a,v::b,o,hm=>
     obtain⟨g,i⟩:=ih a b (by simpa using o) (by simpa using hm) (λk z=>S k (a5R _ z)) (λc d h G L=>D (c+1) d h (by trivial) (by trivial));have z:=S k a6q;have j:=D 0 v k rfl rfl;have T:k= .v v/\x.fit v:=by
      cases k<;>first
       |(cases x<;>exact z.elim)
       |skip
      cases j;refine⟨rfl,?_⟩;cases x<;>cases v<;>first|exact z|exact z.elim
     refine⟨λE F p=>⟨T.2,g E F p⟩,by rw[T.1,i];rfl⟩
  obtain⟨n,q⟩:=f r (a.take r) (b.take r) (by simp[o]) (by simp[V]) W (λc d h G L=>by
   grind)
  grind[jv,List.take_append_drop]
def bQ (y:Program) (z:R->U->Prop) (o:Oper) (h:Act) (k:World) (p:bl) (r:U) (C:R->U->Prop):Prop:=
 ∀x:Exit->Act->World->Prop,(∀v a b c d,Step p r k b c d->aY b v a->up z a c->x (.panic [{v,recovered:=false}]) h d)->o.wp y h k (λD d=> ∃v b c a,D=h.put o.dst v/\Step p r k b c d/\aY b v a/\C a c) x
variable{M e6 h4:Own}
section
variable  {o:Oper}{a:Act}   
def bQ.value {v:Value}{b:bl} (c:(execOp a.eval o).run m l= .ok (.value v) h7) (d:Step u f l b t h7) (h:aY b v n) (k:a7 n t):bQ m s o a l u f a7:=by intro p _;unfold Oper.wp;rw[c];exact⟨v,b,t,n,rfl,d,h,k⟩
def bQ.same {v:Value} (b:Holds u f l) (c:(execOp a.eval o).run m l= .ok (.value v) l) (d:aY u v n) (h:a7 n f):bQ m s o a l u f a7:=
 .value c (.refl b) d h
def bQ.skip {b:bl} (c:(execOp a.eval o).run m l= .ok .skip h7) (d:Step u f l b t h7) (h:a7 (.aK []) t):bQ m s o a l u f a7:=by intro k _;unfold Oper.wp;rw[c];exact⟨undef,b,t,.aK [],rfl,d,aY.undef _,h⟩
def aY.dQ {b:Value} (c:aY u e5 (.v b)):e5=b:=by cases c;rfl
def aY.kR (b:aY u e5 (.ptr e i)):e5= .pointer (some ⟨e,i,none⟩):=by cases b;rfl
theorem aY.aX {k:Array Value}{c:List R} (p:br u k c) (r: ∀h∈c,h.one=true) (b d:Nat) (x:b+d<=c.length):aY u (.agg (k.extract b (b+d))) (aX true d (c.drop b)):=by have:=p.sub b d x;exact .agg _ _ (λh y=>r h (a5b (a4K y))) this.1 this.2
theorem aY.vM (c:br u j8 g) (b:Nat) (k:b+1<=g.length):aY u (j8.getD b Go.undef) (bx.aX false 1 (g.drop b)):=by
 have d:b<g.length:=a8Z;have:=c.2 b g[b] (a4w d);have h:bx.aX false 1 (g.drop b)=g[b]:=by unfold bx.aX;simp_all
 rw[h];exact this
theorem Holds.read {l:Nat}{p:List R} (k:Holds u f h7) (b:f.read l=some p):(∀h∈p,h.one=true)/\ ∃d T z,h7.heap[l]? =some (.cells d T z)/\br u d p:=by
 unfold U.read at b;split at b
 .rename_i h c;obtain rfl:=a4v b;obtain⟨r,d,T,x,y,_⟩:=k.dO l _ c;simp_all
 .rename_i h c;obtain rfl:=a4v b;obtain⟨r,d,T,z,x,y,_⟩:=k.dO l _ c;simp_all
 .rename_i T h c;obtain rfl:=a4v b;obtain⟨r,d,x,y,_⟩:=k.dO l _ c;simp_all
 .rename_i h c;obtain rfl:=a4v b;obtain⟨r,d,T,x,y,_⟩:=k.dO l _ c;simp_all
 .cases b
def vN (b:World) (c:TypeId) (d:TypeDesc) (h:Addr) (k:Value) (p:m.underlying c=some d) (r:d.isRow=false) (x:b.cell? h=some k):(loadVar c h).run m b= .ok k b:=by simp[loadVar,vL p,r,x]
theorem Hi (r:TypeId) (C:Operand) (S:o.op= .load r C) (h:TypeDesc) (y:m.underlying r=some h) (c:Nat) (B:(m.info? r).map (·.size)=some c) (H:h.isRow=false->c=1)
  (M:aQ C=true) (N:bK u a j) (z:Holds u f l) (D:G ⟨m,s⟩ (.load h.isRow c C) j f a7):bQ m s o a l u f a7:=by
 have E:=N.ak C M;simp only[G]at D;split at D
 .rename_i F b i;rw[i]at E;have I:=E.kR;split at D
  case h_2=>trivial
  rename_i V O;obtain⟨W,k⟩:=D;obtain⟨n,p,T,k1,Q,e⟩:=z.read O;cases d:h.isRow with
  |true=>
   rw[d]at k;have q:l.rangeAt F b ((p.toList.drop b).take c):=by intro L v t;grind[cell_of_row]
   have X:((p.toList.drop b).take c).length=c:=by have:=e.1;simp;omega
   have x:=run_loadAt_mid l F b r ((p.toList.drop b).take c) h q y d (by rw[X];exact B);refine .same z (v:= .agg ((p.toList.drop b).take c).toArray) ?_ ?_ k
   .simp[execOp,S,I,x]
   .have:=aY.aX e n b c W;rw[show((p.toList.drop b).take c).toArray=p.extract b (b+c) by grind];exact this
  |false=>
   rw[d]at k;obtain rfl:=H d;have Y:b<p.size:=by have:=e.1;omega
   have P:l.cell? ⟨F,b,none⟩=some (p.getD b undef):=by rw[cell_of_row l F b p T _ Q];simp[Y]
   have x:=vN l r h ⟨F,b,none⟩ _ y d P;refine .same z ?_ (aY.vM e b W) k;simp[execOp,S,I,Instr.loadAt,Instr.sureAddr,x]
 .rename_i V i;rw[i]at E;obtain⟨W,k⟩:=D;generalize K:a.eval C=k2 at E;cases E with
  |bV w b g V n hH Z=>
   have j9:=λL t=>z.ro _ _ _ (hH L t);cases d:h.isRow with
   |true=>
    rw[d]at k;have q:l.rangeAt w b ((List.range c).map g):=by intro L v t;grind
    have x:=run_loadAt_mid l w b r ((List.range c).map g) h q y d (by simp[B]);refine .same z (v:= .agg ((List.range c).map g).toArray) ?_ ?_ k
    .simp only[execOp,S,K,Sem.run_bind,x];rfl
    .refine .agg _ _ (λA P=>n A (a4K P)) a9b (λL k3 y=> ?_);have k0:L<c:=by grind
     rw[a5w k0]at y;simp_all
   |false=>
    rw[d]at k;obtain rfl:=H d;have P:=j9 0 a8Z;have x:=vN l r h ⟨w,b,none⟩ _ y d P;refine .same z (v:=g 0) ?_ ?_ k
    .simp[execOp,S,K,Instr.loadAt,Instr.sureAddr,x]
    .match V,W with
     |A::V,_=>exact Z 0 A rfl
 .trivial
theorem Hj (k:TypeId) (c b:Array Value) (d:Nat) {h:Nat×Nat} (x:l.heap[e]? =some (.cells c b2 h)) (y: ∀p,p<c.size-> ¬(h.1<=p/\p<h.2)) (F:d+b.size<=c.size) (z: ∀C∈b.toList,C.oneCell'=true) (v:Value) (G:v.cells=b)
  (D:(m.info? k).map (·.size)=some b.size):(Instr.storeAt k (.pointer (some ⟨e,d,none⟩)) v).run m l= .ok () (l.setRow e (dh c d b.toList)):=by
 have r:=tm m e d b2 h b.toList 0 c l x y (by trivial) z;simp only[a6w]at r;have L:(storeCells ⟨e,d,none⟩ b.toList).run m l= .ok () (l.setRow e (dh c d b.toList)):=by rw[r];rfl
 cases E:m.info? k with
 |none=>simp[E]at D
 |some P=>simp_all [Instr.storeAt,Instr.sureAddr,storeVar,sizeOf,typeInfo]
def Hk (k:TypeId) (c b:Operand) (C:o.op= .store k c b) (p:Nat) (D:(m.info? k).map (·.size)=some p) (v:0<p) (E:aQ c=true) (F:aQ b=true) (r:bK u a j) (L:Holds u f l)
  (d:G ⟨m,s⟩ (.store p c b) j f a7):bQ m s o a l u f a7:=by
 have x:=r.ak c E;have P:=r.ak b F;simp only[G]at d;split at d
 case h_2=>trivial
 rename_i w y S;rw[S]at x;split at d
 .rename_i A V;obtain⟨W,B,e⟩:=d;have g:=x.kR;obtain⟨h,z⟩:=P.cells a8Z;obtain⟨i,T,n,H,q⟩:=Step.store L V y (ak j b).cells (a.eval b).cells h z a8Z;refine .skip ?_ q e;have t:=Hj k i (a.eval b).cells y n (vG _) (by have:=h.1;omega) (h.nI z) (a.eval b) rfl (by rw[D,h.1,W]);simp only[execOp,C,g,Sem.run_bind,t];rfl
 .trivial
def Hl (c:TypeId) (p:o.op= .alloc c) (h:TypeInfo) (r:m.info? c=some h) (b:Value) (x:h.zero=some b) (y: ∀d∈b.cells.toList,d.oneCell'=true) (k:Holds u f l)
  (z:G ⟨m,s⟩ (.alloc c (b.cells.toList.map cT)) j f a7):bQ m s o a l u f a7:=by
 refine .value ?_ (Step.new k b.cells c (b.cells.toList.map cT) (λD C=>by obtain⟨d,_,rfl⟩:=a4R.1 C;exact nK d) (br.oN u _ y))
  (.ptr _ _) (z _ k.ec)
 simp[execOp,p,Instr.alloc,zeroValue,typeInfo,r,x,newVar,newRow]
theorem Hm (c:TypeId) (b:Operand) (k:o.op= .box c b) (p:aQ b=true) (r:bK u a j) (d:Holds u f l) (h:G ⟨m,s⟩ (.box c b) j f a7):bQ m s o a l u f a7:=by obtain⟨x,y⟩:=(r.ak b p).cells h.1;refine .value ?_ (Step.new d _ c _ y x) (.ptr _ _) (h.2 _ d.ec);simp[execOp,k,Instr.box,newVar,newRow]
def Ac (b:Operand) (c:o.op= .move b\/o.op= .assign b) (d:aQ b=true) (h:bK u a j) (k:Holds u f l) (p:G ⟨m,s⟩ (.eZ b) j f a7):bQ m s o a l u f a7:=by refine .same k ?_ (h.ak b d) p;rcases c with c|c<;>simp[execOp,c]
theorem Hn (b c d:Operand) (k:o.op= .pick b c d) (z:aQ b=true) (C:aQ c=true) (D:aQ d=true) (h:bK u a j) (p:Holds u f l) (r:G ⟨m,s⟩ (.pick b c d) j f a7):bQ m s o a l u f a7:=by
 have x:=h.ak b z;simp only[G]at r;split at r
 case h_2=>trivial
 rename_i E F;rw[F]at x;have y:=x.dQ;cases E
 .exact .same p (by simp[execOp,k,y,asBool]) (h.ak d D) (by trivial)
 .exact .same p (by simp[execOp,k,y,asBool]) (h.ak c C) (by trivial)
def Ho (c:Operand) (k:o.op= .nilCheck c) (x:aQ c=true) (y:bK u a j) (p:Holds u f l) (d:G ⟨m,s⟩ (.pU c) j f a7):bQ m s o a l u f a7:=by
 have b:=y.ak c x;simp only[G]at d;split at d
 .rename_i D E h;rw[h]at b;have:=b.kR;exact .same p (by simp[execOp,k,this]) (.ptr _ _) d
 .rename_i z h;rw[h]at b;generalize r:a.eval c=C at b;refine .same p ?_ b d;cases b;simp[execOp,k,r]
 .rename_i F z h;rw[h]at b;generalize r:a.eval c=C at b;refine .same p ?_ b d;cases b;simp[execOp,k,r]
 .trivial
theorem Ad (k:aY u e5 (.bV g)) (d:Nat): ∃b c,e5= .pointer (some ⟨b,c,none⟩)/\aY u (.pointer (some ⟨b,c+d,none⟩)) (.bV (g.drop d)):=by
 cases k with
 |bV b c p g r hH z=>refine⟨b,c,rfl,.bV b (c+d) (λh=>p (d+h)) _ (λx y=>r x (a5b y)) (λh C=> ?_) (λh D E=> ?_)⟩;grind;grind
theorem hj (b c d:Nat):(⟨b,c,none⟩:Addr).add d=⟨b,c+d,none⟩:=Addr.add_mid b c d
theorem Hp (r:TypeId) (d:Operand) (x:Nat) (C:o.op= .fieldAddr r d x) (D:Array Field) (e:m.underlying r=some (.struct D)) (b:Field) (g:D[x]? =some b) (E:Nat) (P:(m.info? b.type).map (·.size)=some E) (i:E≠0)
  (S:aQ d=true) (T:bK u a j) (F:Holds u f l) (h:G ⟨m,s⟩ (.kO b.offset d) j f a7):bQ m s o a l u f a7:=by
 have k:=T.ak d S;have L: ∀p c:Nat,(Instr.fieldAt r (.pointer (some ⟨p,c,none⟩)) x).run m l= .ok (.pointer (some ⟨p,c+b.offset,none⟩)) l:=by
  intro p c;cases V:m.info? b.type with
  |none=>simp[V]at P
  |some ii=>simp_all [Instr.fieldAt,run_underlying,Instr.sureAddr,fieldPlace,sizeOf,typeInfo,hj]
 simp only[G]at h;split at h
 .rename_i n c y;rw[y]at k;have z:=k.kR;exact .same F (by simp only[execOp,C,z,Sem.run_bind,L];rfl) (.ptr _ _) h
 .rename_i q y;rw[y]at k;obtain⟨p,c,z,W⟩:=Ad k b.offset;exact .same F (by simp only[execOp,C,z,Sem.run_bind,L];rfl) W h
 .trivial
theorem Hq (C:TypeId) (h k:Operand) (A:o.op= .indexAddr C h k) (D:Nat) (E:TypeId) (W:m.underlying C=some (.array D E)) (c:Nat) (S:(m.info? E).map (·.size)=some c)
  (e:aQ h=true) (g:aQ k=true) (T:bK u a j) (V:Holds u f l) (p:G ⟨m,s⟩ (.pV c D h k) j f a7):bQ m s o a l u f a7:=by
 have r:=T.ak h e;have x:=T.ak k g;have B: ∀(y d) (z) (b:Int),0<=b->b<D->(Instr.indexAt C (.pointer (some ⟨y,d,none⟩)) (.int z b)).run m l= .ok (.pointer (some ⟨y,d+b.toNat*c,none⟩)) l:=by
  intro y d z b i n;cases F:m.info? E with
  |none=>simp[F]at S
  |some ii=>
   have q:ii.size=c:=by simpa[F] using S
   simp[Instr.indexAt,asIntOf,run_underlying W,Instr.sureAddr,i,n,sizeOf,typeInfo,F,q,hj]
 simp only[G]at p;split at p
 .rename_i H d z b L P;rw[L]at r;rw[P]at x;have t:=r.kR;have v:=x.dQ;exact .same V (by simp_all [execOp]) (.ptr _ _) p.2.2
 .rename_i I z b L P;rw[L]at r;rw[P]at x;have v:=x.dQ;obtain⟨y,d,t,w⟩:=Ad r (b.toNat*c);exact .same V (by simp_all [execOp]) w p.2.2
 .trivial
theorem db {d:Nat}: ∀ {b:List R},(∀c∈b,c.cells.length=d)->(flat b).length=b.length*d
 | [],_=>by simp[flat]
 |k::b,h=>by
  have:=db (λc p=>h c (a5R _ p));have r:=h k a6q;simp only[flat,a4Y,a4y,a4C,a5F,a7q]at this|-;omega
theorem fU {d:Nat}: ∀ {c:List R} (b:Nat),(∀h∈c,h.cells.length=d)->(flat c).drop (b*d)=flat (c.drop b)/\(flat c).take (b*d)=flat (c.take b)
 |c,0,_=>by simp[flat]
 | [],b+1,_=>by simp[flat]
 |k::c,b+1,p=>by
  obtain⟨x,y⟩:=fU b (λh r=>p h (a5R _ r));have z:=p k a6q;have h:(b+1)*d=k.cells.length+b*d:=by grind
  grind[flat,List.drop_append,List.drop_of_length_le,Nat.add_sub_cancel_left]
def aY.vO (x:aY u e5 (.J g M)) (L:g≠ []): ∃(c d h k:Nat) (p:Nat->Value),e5= .slice (some ⟨c,d,none⟩) g.length h/\0<k/\g.length<=h/\(∀y∈g,y.cells.length=k)/\(∀z∈flat g,z.one=true)/\
  (∀b,b<g.length*k->u c (d+b)=some (p b))/\(∀b r,(flat g)[b]? =some r->aY u (p b) r)/\M.ok c d h:=by
 cases x with
 |dg=>trivial
 |J c d len h k p g M hk hlen C D E hH F G=>subst hlen;exact⟨c,d,h,k,p,rfl,hk,C,D,E,hH,F,G⟩
theorem Hr (e:TypeId) (y S:Operand) (O:o.op= .indexAddr e y S) (g:TypeId) (T:m.underlying e=some (.slice g)) (c:Nat) (A:(m.info? g).map (·.size)=some c)
  (Q:aQ y=true) (X:aQ S=true) (B:bK u a j) (i:Holds u f l) (h:G ⟨m,s⟩ (.dG c y S) j f a7):bQ m s o a l u f a7:=by
 have k:=B.ak y Q;have z:=B.ak S X;have Y: ∀(C p len r:Nat) (D) (b:Int),0<=b->b<len->(Instr.indexAt e (.slice (some ⟨C,p,none⟩) len r) (.int D b)).run m l= .ok (.pointer (some ⟨C,p+b.toNat*c,none⟩)) l:=by
  intro C p len r D b E V;cases n:m.info? g with
  |none=>simp[n]at A
  |some ii=>
   have Z:ii.size=c:=by simpa[n] using A
   simp[Instr.indexAt,asIntOf,run_underlying T,E,V,sizeOf,typeInfo,n,Z,hj]
 simp only[G]at h;split at h
 .rename_i q k7 D b F L;rw[F]at k;rw[L]at z;have t:=z.dQ;obtain⟨E,h⟩:=h;split at h
  case h_2=>trivial
  rename_i el H;obtain⟨j9,P⟩:=h;have k8:=(a4E.1 H).1;obtain⟨C,p,r,v,k0,k9,l0,I,w,l1,k1,k2,_⟩:=k.vO (by grind);have k3:=a4D H;obtain rfl:c=v:=by rw[<-j9];exact w el k3
  have l2:b<(q.length):=a8Z;refine .same i (v:= .pointer (some ⟨C,p+b.toNat*c,none⟩)) (by simp_all [execOp]) ?_ P;have K: ∀d x,el.cells[d]? =some x->(flat q)[b.toNat*c+d]? =some x:=λd x T=>by
   have l3:=(fU b.toNat w).1;have:((flat q).drop (b.toNat*c))[d]? =some x:=by grind[List.drop_eq_getElem_cons,List.getElem?_eq_some_iff,flat,List.getElem?_append_left]
   simpa using this
  refine .bV C _ (λd=>k0 (b.toNat*c+d)) _ (λl4 l5=> ?_) (λd k4=> ?_) (λd x T=>k2 _ x (K d x T));grind[List.getElem?_of_mem,List.mem_of_getElem?]
  .rw[a7Y];refine k1 _ ?_;have:=(a4E.1 (K d _ (a4w k4))).1;rwa[db w]at this
 .rename_i W p len l6 v D b F L;rw[F]at k;rw[L]at z;have t:=z.dQ;obtain⟨rfl,E,V,P⟩:=h;generalize M:a.eval y=k5 at k;cases k with
  |bA W p len r c k6 I=>exact .same i (by simp_all [execOp]) (.ptr _ _) P
 .rename_i W len r v D b F L;rw[F]at k;rw[L]at z;have t:=z.dQ;obtain⟨rfl,E,V,P⟩:=h;generalize M:a.eval y=k5 at k;cases k with
  |an W len r c k6 I=>have N:=Y W 0 len r D b E V;rw[a4W]at N;exact .same i (by simp only[execOp,O,M,t,Sem.run_bind,N];rfl) (.ptr _ _) P
 .trivial
end
section
variable  {o:Oper}{a:Act}   
theorem Hs (k:br u j8 g) (G: ∀y∈g,y.one=true) (d:TypeId) (h:TypeDesc) (z:m.underlying d=some h) (c:Nat) (p:(m.info? d).map (·.size)=some c) (C:h.isRow=false->c=1)
  (b:Nat) (D:b+c<=g.length): ∃v,(∀l,(part d j8 b).run m l= .ok v l)/\aY u v (aX h.isRow c (g.drop b)):=by
 cases r:m.info? d with
 |none=>simp[r]at p
 |some E=>
  have L:E.size=c:=by simpa[r] using p
  cases x:h.isRow with
  |true=>simp_all [lO,aY.aX]
  |false=>
   obtain rfl:=C x;have F:b<j8.size:=by have:=k.1;omega
   exact⟨_,λl=>nO z x j8 b (j8.getD b undef) (by simp[F]) l,aY.vM k b D⟩
theorem Ht (y:TypeId) (c h:Operand) (B:o.op= .index y c h) (z:Nat) (d:TypeId) (H:m.underlying y=some (.array z d)) (k:TypeDesc) (F:m.underlying d=some k) (b:Nat)
  (p:(m.info? d).map (·.size)=some b) (L:k.isRow=false->b=1) (P:aQ c=true) (S:aQ h=true) (C:bK u a j) (T:Holds u f l) (r:G ⟨m,s⟩ (.pW k.isRow b z c h) j f a7):bQ m s o a l u f a7:=by
 have x:=C.ak c P;have D:=C.ak h S;simp only[G]at r;split at r
 case h_2=>trivial
 rename_i V I W e g;rw[e]at x;rw[g]at D;have K:=D.dQ;generalize M:a.eval c=N at x;cases x with
 |agg O V i n q=>
  obtain⟨Q,hm,t,w⟩:=r;obtain⟨v,X,A⟩:=Hs ⟨n,q⟩ i d k F b p L (W.toNat*b) t;cases E:m.info? d with
  |none=>simp[E]at p
  |some ii=>
   have Y:ii.size=b:=by simpa[E] using p
   exact .same T (by simp_all [execOp,Instr.index,asIntOf,run_underlying,sizeOf,typeInfo]) A w
def Hu (h:TypeId) (c d:Operand) (C:o.op= .index h c d) (D:m.underlying h=some .string) (E:aQ c=true) (F:aQ d=true) (k:bK u a j) (L:Holds u f l) (b:G ⟨m,s⟩ (.lG c d) j f a7):bQ m s o a l u f a7:=by
 have p:=k.ak c E;have r:=k.ak d F;simp only[G]at b;split at b
 case h_2=>trivial
 rename_i x n y P S;rw[P]at p;rw[S]at r;have T:=p.dQ;have V:=r.dQ;obtain⟨W,b⟩:=b;split at b
 case h_2=>trivial
 rename_i e z;have g:x[y.toNat]? =some e:=by have i:=(a5M.1 z).1;rw[getElem?_pos x y.toNat i];have:=(a5M.1 z).2;rw[<-this];rfl
 exact .same L (by simp[execOp,C,T,V,Instr.index,asIntOf,run_underlying D,W,g]) (.v _ rfl) b
theorem Hv (b:Operand) (c:Nat) (k:o.op= .extract b c) (p:aQ b=true) (r:bK u a j) (x:Holds u f l) (d:G ⟨m,s⟩ (.ext b c) j f a7):bQ m s o a l u f a7:=by
 have h:=r.ak b p;simp only[G]at d;split at d
 case h_2=>trivial
 rename_i y z;rw[z]at h;split at d
 case h_2=>trivial
 rename_i C D;generalize E:a.eval b=P at h;cases h with
 |aK us y S F=>
  have L:c<us.size:=by grind
  have:=F c C D;refine .same x ?_ this d;simp[execOp,k,E,Instr.extract,L]
def Hw (L:TypeId) (c:Operand) (x:o.op= .call {callee:= .builtin .len,args:= #[c],argTypes:= #[L]}) (T:TypeId) (y:m.underlying L=some (.slice T))
  (V:aQ c=true) (W:bK u a j) (z:Holds u f l) (h:G ⟨m,s⟩ (.len c) j f a7):bQ m s o a l u f a7:=by
 have b:=W.ak c V;simp only[G]at h;split at h
 .rename_i P e k;rw[k]at b;generalize p:a.eval c=C at b;have D: ∃E d,C= .slice E P.length d:=by
   cases b with
   |dg E d=>simp
   |J n S len d r q P e hk D=>subst D;simp
  obtain⟨E,d,rfl⟩:=D;exact .same z (by simp[execOp,x,resolve,invoke,builtin,p,Builtin.len_,run_underlying y,goInt]) (.v _ rfl) h
 .rename_i F S g t r k;rw[k]at b;generalize p:a.eval c=C at b;cases b with
  |bA F S len d r hk i=>exact .same z (by simp[execOp,x,resolve,invoke,builtin,p,Builtin.len_,run_underlying y,goInt]) (.v _ rfl) h
 .rename_i F g d r k;rw[k]at b;generalize p:a.eval c=C at b;cases b with
  |an F len d r hk i=>exact .same z (by simp[execOp,x,resolve,invoke,builtin,p,Builtin.len_,run_underlying y,goInt]) (.v _ rfl) h
 .trivial
def Hx (d:TypeId) (b:Operand) (k:o.op= .call {callee:= .builtin .len,args:= #[b],argTypes:= #[d]}) (p:m.underlying d=some .string)
  (r:aQ b=true) (x:bK u a j) (y:Holds u f l) (c:G ⟨m,s⟩ (.pX b) j f a7):bQ m s o a l u f a7:=by
 have h:=x.ak b r;simp only[G]at c;split at c
 .rename_i D z;rw[z]at h;have C:=h.dQ;exact .same y (by simp[execOp,k,resolve,invoke,builtin,C,Builtin.len_,run_underlying p,goInt]) (.v _ rfl) c
 .trivial
theorem Hy (c:BinOp) (x:TypeId) (k p d:Value) (b:bn c k p=some d) (r:World):(binOp c x k p).run m r= .ok d r/\d.oneCell'=true:=by
 unfold bn at b;split at b
 .rename_i C D E F;split at b
  .rename_i h;unfold nL at b;split at b
   .cases b
   .rename_i y;cases c<;>simp[fq]at h<;>simp only[]at b<;>(obtain rfl:=a4v b)<;>simp[binOp,Op.shift,y,Value.oneCell']
  .rename_i h;split at b
   .rename_i z;subst z;cases c<;>simp[fq]at h<;>simp only[hF]at b<;>first
     |(split at b<;>first|(cases b;done)|skip)
     |skip
    all_goals (obtain rfl:=a4v b)
    all_goals simp_all [binOp,Op.intArith,Op.intDiv,Op.intBits,Op.intCmp,Value.oneCell']
    all_goals grind
   .cases b
 .unfold pT at b;cases c<;>simp only[]at b<;>first
   |(cases b;done)
   |(split at b<;>first|(cases b;done)|skip)
   |skip
  all_goals (obtain rfl:=a4v b)
  all_goals simp[binOp,Op.stringOp,Value.oneCell']
  omega
 .cases b
def Hz (b:BinOp) (p:TypeId) (r x:Operand) (d h:Value) (c:(bn b d h).isSome) (k:World):(eqGuard b p r x d h).run m k= .ok () k:=by
 unfold bn at c;split at c<;>first
  |(cases b<;>simp[eqGuard];done)
  |simp at c
theorem vP (h:BinOp) (k:TypeId) (b c:Operand) (y:TypeId) (V:o.op= .binOp h k b c y) (z:aQ b=true) (C:aQ c=true) (p:bK u a j) (D:Holds u f l) (d:G ⟨m,s⟩ (.bin h b c) j f a7):bQ m s o a l u f a7:=by
 have r:=p.ak b z;have x:=p.ak c C;simp only[G]at d;split at d
 case h_2=>trivial
 rename_i E v F L;rw[F]at r;rw[L]at x;have W:=r.dQ;have e:=x.dQ;split at d
 case h_2=>trivial
 rename_i P S;obtain⟨g,T⟩:=Hy (m:=m) h k E v P S l;exact .same D (by simp_all [execOp,Hz]) (.v _ T) d
def HA (c:UnOp) (x:TypeId) (d:Operand) (y:o.op= .unOp c x d) (z:aQ d=true) (C:bK u a j) (D:Holds u f l) (h:G ⟨m,s⟩ (.un c d) j f a7):bQ m s o a l u f a7:=by
 have k:=C.ak d z;simp only[G]at h;split at h
 case h_2=>trivial
 rename_i E F;rw[F]at k;have L:=k.dQ;split at h
 case h_2=>trivial
 rename_i p b;have r:(Op.unary c E).run m l= .ok p l/\p.oneCell'=true:=by
  unfold nM at b;split at b
  .cases c<;>simp only[]at b<;>first|(cases b;done)|skip
   obtain rfl:=a4v b;trivial
  .cases c<;>simp only[]at b<;>first|(cases b;done)|skip
   all_goals (obtain rfl:=a4v b)
   all_goals simp[Op.unary,Op.intArith,Op.intBits,Value.oneCell']
  .cases b
 exact .same D (by simp[execOp,y,L,r.1]) (.v _ r.2) h
def HB (d h:TypeId) (b:Operand) (r:o.op= .convert d h b) (k x:IntKind) (y:m.underlying d=some (.int x)) (z:m.underlying h=some (.int k)) (C:aQ b=true) (D:bK u a j) (E:Holds u f l) (c:G ⟨m,s⟩ (.iN k b) j f a7):bQ m s o a l u f a7:=by
 have p:=D.ak b C;simp only[G]at c;split at c
 case h_2=>trivial
 rename_i P S F;rw[F]at p;have L:=p.dQ;exact .same E (by simp[execOp,r,L,convert,run_underlying y,run_underlying z,Conv.intToInt]) (.v _ rfl) c
theorem HC (D:Bool) (b:TypeId) (k p:Operand) (w:TypeId) (l1:o.op= .binOp (if D then .neq else .eql) b k p w) (d:Nat) (c:List c8) (A:flatK m d b=some c) (S:m.cellsOf b=c.length) (T:(m.info? b).isSome) (l2:d<=10000)
  (B:(m.underlying b).any (·.isRow)=true) (l3:m.eqGuardType m.depth b=false) (H:aQ k=true) (I:aQ p=true) (V:bK u a j) (W:Holds u f l) (E:G ⟨m,s⟩ (.eqv D (mK c) k p) j f a7):bQ m s o a l u f a7:=by
 have F:=V.ak k H;have L:=V.ak p I;simp only[G]at E;split at E
 case h_2=>trivial
 rename_i r x K M;rw[K]at F;rw[M]at L;generalize l4:a.eval k=l5 at F;generalize l6:a.eval p=l7 at L;cases F with
 |agg h r l8 N O=>
  cases L with
  |agg us x l9 Q X=>
   obtain⟨Y,Z,e⟩:=E;have g:br u h r:=⟨N,O⟩;have i:br u us x:=⟨Q,X⟩;obtain⟨n,j9⟩:=oQ _ r h.toList Y (br.dP.1 g).1 (br.dP.1 g).2;obtain⟨q,k0⟩:=oQ _ x us.toList Z (br.dP.1 i).1 (br.dP.1 i).2;rw[tr]at n q;have k1:h.size=c.length:=by have:=nN n;trivial
   have k2:us.size=c.length:=by have:=nN q;trivial
   obtain⟨P,t⟩:=a5j.1 T;have v:P.size=c.length:=by simpa[Program.cellsOf,t] using S
   obtain⟨y,k3⟩: ∃y,m.underlying b=some y:=by
    cases hu:m.underlying b with
    |none=>simp[hu]at B
    |some y=>simp
   have k4:y.isRow=true:=by simp_all
   obtain⟨n0,n1,k5,z,C,k6,k7⟩:=tq d b c A S T (10000 - d) l h us 0 (by grind) (by grind);rw[lO k3 k4 t]at z C;have k8:h.extract 0 (0+P.size)=h:=by rw[a4W,v,<-k1];simp
   have k9:us.extract 0 (0+P.size)=us:=by rw[a4W,v,<-k2];simp
   rw[k8]at z;rw[k9]at C;simp only[Result.ok.injEq,and_true]at z C;subst z;subst C;rw[show 10000 - d+d=10000 by omega]at k6;have l0:k5=peq (.agg r) (.agg x):=by rw[a6Z,rm,k7,a6C,a6C,j9,k0];grind[List.take_of_length_le,R.agg.injEq,List.map_inj_right]
   subst l0;cases D
   .refine .same W ?_ (.v _ rfl) (by simpa using e);simp_all [execOp,run_eqGuard_agg,run_eql_struct]
   .refine .same W ?_ (.v _ rfl) (by simpa using e);simp_all [execOp,run_eqGuard_agg,run_neq_struct]
def HD (C:Bool) (d:TypeId) (E F:Operand) (q:TypeId) (h:o.op= .binOp (if C then .neq else .eql) d E F q) (L:TypeId) (S:m.underlying d=some (.pointer L)) (T:TypeInfo) (t:m.info? L=some T) (v:T.size≠0) (w:aQ E=true) (A:aQ F=true) (W:bK u a j) (k:Holds u f l)
  (p:G ⟨m,s⟩ (.pY C E F) j f a7):bQ m s o a l u f a7:=by
 have c:=W.ak E w;have r:=W.ak F A;have B:m.pointee d=L:=by simp[Program.pointee,S]
 have H:m.underlying d=some (.pointer (m.pointee d)):=by rw[B];exact S
 have D: ∀P:Option Addr,(Op.equalIn 10000 d (.pointer P) (.pointer none)).run m l= .ok P.isNone l:=λP=>run_equalIn_pointer_nil l 9999 d P H;simp only[G]at p;split at p
 .rename_i V I y z;rw[y]at c;rw[z]at r;have x:=c.kR;have b:=r.dQ;cases C
  .exact .same k (by simp[execOp,h,x,b,eqGuard,binOp,Op.equal,Op.maxDepth,D]) (.v _ rfl) p
  .exact .same k (by simp[execOp,h,x,b,eqGuard,binOp,Op.equal,Op.maxDepth,D]) (.v _ rfl) p
 .rename_i K y z;rw[y]at c;rw[z]at r;have b:=r.dQ;generalize e:a.eval E=N at c;cases c with
  |bV O I Q K X hH Y=>
   cases C
   .exact .same k (by simp[execOp,h,e,b,eqGuard,binOp,Op.equal,Op.maxDepth,D]) (.v _ rfl) p
   .exact .same k (by simp[execOp,h,e,b,eqGuard,binOp,Op.equal,Op.maxDepth,D]) (.v _ rfl) p
 .rename_i y z;rw[y]at c;rw[z]at r;have x:=c.dQ;have b:=r.dQ;cases C
  .exact .same k (v:= .bool true) (by simp[execOp,h,x,b,eqGuard,binOp,Op.equal,Op.maxDepth,D]) (.v _ rfl) (by trivial)
  .exact .same k (v:= .bool false) (by simp[execOp,h,x,b,eqGuard,binOp,Op.equal,Op.maxDepth,D]) (.v _ rfl) (by trivial)
 .rename_i V g Z j9 y z;obtain⟨⟨rfl,rfl⟩,p⟩:=p;rw[y]at c;rw[z]at r;have x:=c.kR;have b:=r.kR;have M:(sizeOf L).run m l= .ok T.size l:=by simp[sizeOf,typeInfo,t]
  have i: ∀n,(Op.equalIn (n+1) d (.pointer (some ⟨V,g,none⟩)) (.pointer (some ⟨V,g,none⟩))).run m l= .ok true l:=λn=>by simp[Op.equalIn,run_underlying S,M,v,run_sameAddr_same]
  cases C
  .exact .same k (v:= .bool true) (by simp[execOp,h,x,b,eqGuard,binOp,Op.equal,Op.maxDepth,i]) (.v _ rfl) (by trivial)
  .exact .same k (v:= .bool false) (by simp[execOp,h,x,b,eqGuard,binOp,Op.equal,Op.maxDepth,i]) (.v _ rfl) (by trivial)
 .trivial
theorem HE (b:FuncId) (c:Func) (args:Array Operand) (y:Array TypeId) (z:o.op= .call {callee:= .value (.func b),args,argTypes:=y}) (C:m.funcs[b]? =some c) (D:c.body.isSome) (E:c.name≠ "runtime.NumGoroutine")
  (F: ∀h∈args.toList,aQ h=true) (L:bK u a j) (r:Holds u f l) (P:G ⟨m,s⟩ (.fT b args.toList) j f a7):bQ m s o a l u f a7:=by
 intro g i;have S:br u (args.map a.eval) (args.toList.map (ak j)):=by
  refine br.dP.2 ⟨a9a,λT h V d k=> ?_⟩;rw[a6V,a4X]at d;rw[a4X]at k;cases p:args.toList[T]? with
  |none=>simp[p]at d
  |some op=>
   rw[p]at d k;obtain rfl:a.eval op=h:=by simpa using d
   obtain rfl:ak j op=V:=by simpa using k
   exact L.ak op (F op (a4D p))
 have W:=P (args.map a.eval) l u S r;have e:(execOp a.eval o).run m l= .ok (.enter b (args.map a.eval)) l:=by
  cases x:c.body with
  |none=>simp[x]at D
  |some n=>simp[execOp,z,resolve,Act.eval,Deferred.ofValue,invoke,callFunc,C,E,x]
 unfold Oper.wp;rw[e];exact W.mono λq t r=>by
  grind
end
variable{b1:Int}
section
variable  {o:Oper}{a:Act}   
def valOf (b:Act) (c:Option Operand):Option Value:=c.map b.eval
theorem gg (h:bK u a j) {b:Option Operand} (p:b.all aQ=true) (c:da j b e=some b1):(b=none/\b1=e)\/ ∃d,valOf a b=some (.int d b1):=by
 cases b with
 |none=>left;simp only[da,a4H]at c;simp_all
 |some b=>
  right;simp only[da]at c;split at c
  .rename_i d r k;obtain rfl:=a4v c;have:=h.ak b (by trivial);rw[k]at this;exact⟨d,by simp[valOf,this.dQ]⟩
  .cases c
theorem Ae (z:Bool) (d h:Nat) (k p:Option Operand) (c b:Int) (C:(k=none/\c=0)\/ ∃r,valOf a k=some (.int r c)) (D:(p=none/\b=d)\/ ∃r,valOf a p=some (.int r b))
  (E:0<=c) (F:c<=b) (T:b<=d) (V:d<=h) (x:World):(Instr.sliceBounds z d h (valOf a k) (valOf a p) none).run m x= .ok (c.toNat,b.toNat,h) x:=by
 have W:(b.toNat)=b:=a6a a8Z;have G:b<=(h):=a8Z;have L:0<=b:=a8Z;have y:valOf a none=none:=rfl;rcases C with ⟨rfl,rfl⟩|⟨e,P⟩<;>rcases D with ⟨rfl,rfl⟩|⟨f,S⟩
 .rfl
 .simp only[Instr.sliceBounds,y,S];simp[run_sliceBound,G,L]
 .simp only[Instr.sliceBounds,y,P];simp[run_sliceBound,E,F]
 simp_all [Instr.sliceBounds,run_sliceBound]
theorem HF (k4:TypeId) (C:Operand) (D g:Option Operand) (n1:o.op= .slice k4 C D g none) (p:TypeId) (k9:m.underlying k4=some (.slice p)) (E:Nat) (K:(m.info? p).map (·.size)=some E) (l0:aQ C=true) (M:D.all aQ=true) (N:g.all aQ=true)
  (P:bK u a j) (O:Holds u f l) (F:G ⟨m,s⟩ (.oO E C D g) j f a7):bQ m s o a l u f a7:=by
 have r:=P.ak C l0;have Q: ∀(x) (len d:Nat) (c b:Int),((D=none/\c=0)\/ ∃X,valOf a D=some (.int X c))->((g=none/\b=len)\/ ∃X,valOf a g=some (.int X b))->0<=c->c<=b->b<=len->len<=d->
   a.eval C= .slice x len d->(execOp a.eval o).run m l= .ok (.value (sliced x c.toNat b.toNat d E)) l:=by
  intro x len d c b w S T V L k5 i;have l1:=Ae (m:=m) true len d D g c b w S T V L k5 l;simp only[valOf]at l1;cases l2:m.info? p with
  |none=>simp[l2]at K
  |some ii=>simp_all [execOp,Instr.sliceAt,Instr.slice,run_underlying,sizeOf,typeInfo,sliced]
 simp only[G]at F;split at F
 .rename_i h k6 y;rw[y]at r;split at F
  case h_2=>trivial
  rename_i c b z W;obtain⟨T,V,L,n2,n⟩:=F;have w:=gg P M z;have S:=gg P N W;generalize i:a.eval C=A at r;have l3: ∃x d,A= .slice x h.length d/\h.length<=d:=by
   cases r with
   |dg x d=>simp
   |J Y B len d E Z h k6 K j9 e=>grind
  obtain⟨x,d,k0,e⟩:=l3;have q:=Q x h.length d c b (by trivial) S T V L e (by rw[i,k0]);refine .same O q ?_ n;have l4:aY u (sliced x c.toNat b.toNat d E) (.J ((h.take b.toNat).drop c.toNat) .any):=by
   by_cases l5:c.toNat=b.toNat
   .have p:(h.take b.toNat).drop c.toNat= []:=by rw[List.drop_eq_nil_iff];simp;omega
    rw[p,l5];unfold sliced;rw[a6O];refine .dg _ _ _ (λl6=> ?_) trivial;split at l6
    .omega
    .cases r with
     |dg n3 k7 n4 bW=>simp_all
     |J Y B len k7 k Z h k6 K j9 e=>simp_all
   .have k8:h≠ []:=by rintro rfl;simp at L;omega
    obtain⟨Y,B,k7,k,Z,k1,l7,n5,k2,n9,l8,a00,_⟩:=r.vO k8;rw[k0]at k1;simp only[Value.slice.injEq]at k1;obtain⟨rfl,_,rfl⟩:=k1;obtain rfl:k=E:=by
     match h,k8 with
     |gG::h,_=>simp_all
    unfold sliced;rw[if_neg a8Z,a5x,hj];have l9: ∀p∈(h.take b.toNat).drop c.toNat,p.cells.length=k:=λp y=>k2 p (a4K (a5b y));have a01:flat ((h.take b.toNat).drop c.toNat)=((flat h).take (b.toNat*k)).drop (c.toNat*k):=by rw[(fU b.toNat k2).2,(fU c.toNat (λp y=>k2 p (a4K y))).1]
    have j9:((h.take b.toNat).drop c.toNat).length=b.toNat - c.toNat:=a9b;refine .J Y _ _ _ k (λH=>Z (c.toNat*k+H)) _ .any l7 j9.symm a8Z l9 (λa02 k5=> ?_) (λH a03=> ?_) (λH a04 k9=> ?_) trivial;grind
    .rw[a7Y];refine l8 _ ?_;have:c.toNat*k+H<b.toNat*k:=by
      have p:b.toNat*k=c.toNat*k+(b.toNat - c.toNat)*k:=by rw[<-a5F];congr 1;omega
      omega
     exact a5J this (a4L _ a8Z)
    grind
  unfold vH;split
  .simp only[da,a4H]at z W;subst z;subst W;have:(h.take ((h.length:Int)).toNat).drop ((0:Nat):Int).toNat=h:=a9a;rw[this];have n0:sliced x ((0:Nat):Int).toNat ((h.length):Int).toNat d E=A:=by rw[k0];unfold sliced;simp_all [Addr.add]
   rw[n0];exact r
  .exact l4
 .rename_i t B v d k y;rw[y]at r;split at F
  case h_2=>trivial
  rename_i c b z W;obtain⟨rfl,T,V,L,k3,n⟩:=F;have w:=gg P M z;have S:=gg P N W;generalize i:a.eval C=A at r;cases r with
  |bA t B v d E I e=>have q:=Q _ v d c b (by trivial) S T V L e i;refine .same O q ?_ n;unfold sliced;rw[if_neg a8Z,a5x,hj];exact .bA _ _ _ _ _ I a8Z
 .rename_i t v d k y;rw[y]at r;split at F
  case h_2=>trivial
  rename_i c b z W;obtain⟨rfl,T,V,L,k3,n⟩:=F;have w:=gg P M z;have S:=gg P N W;generalize i:a.eval C=A at r;cases r with
  |an t v d k I e=>
   have q:=Q _ v d c b (by trivial) S T V L e i;refine .same O q ?_ n;cases D with
   |none=>
    simp only[da,a4H]at z;subst z;simp only[a6p,q2,a5A,if_false];have:sliced (some ⟨t,0,none⟩) ((0:Nat):Int).toNat b.toNat d k= .slice (some ⟨t,0,none⟩) b.toNat d:=by unfold sliced;simp[Addr.add]
    rw[this];exact .an _ _ _ _ I a8Z
   |some D=>simp only[a6P,q2,if_true];have k3:=k3 rfl;unfold sliced;rw[if_neg a8Z,a5x,hj,a4W];exact .bA _ _ _ _ _ I a8Z
 .trivial
theorem vQ (z:0<e) (h:i*e<=g.length) (C: ∀k∈g,k.one=true):(∀b∈ed e i g,b.cells.length=e)/\flat (ed e i g)=g.take (i*e)/\(ed e i g).length=i:=by
 unfold ed;split
 .rename_i p;subst p;rw[a5n]at h|-;have D: ∀b:R,b.one=true->b.cells= [b]:=λb d=>by cases b<;>first|rfl|(simp[R.one]at d)
  refine⟨λb d=>by grind,?_,a9b⟩;have: ∀c:List R,(∀b∈c,b.one=true)->flat c=c:=by
   intro c
   induction c with
   |nil=>intro _;rfl
   |cons E c ih=>grind[flat,List.mem_cons_self,List.mem_cons_of_mem]
  grind
 .refine⟨λb d=> ?_,?_,a9a⟩
  .obtain⟨r,x,rfl⟩:=a4R.1 d;have y:=a5O.1 x;have:(r+1)*e<=i*e:=a4L _ y;grind[R.cells,List.length_take,List.length_drop,Nat.add_mul]
  .clear h
   induction i with
   |zero=>simp[flat]
   |succ i ih=>rw[a8u,a5y];simp only[flat,a5m,a4U,a6k,a4Y,a7l,a5B,R.cells]at ih|-;rw[ih,a5F,a7q,List.take_add]
theorem Af (b:f e=some (.ro g)):f.set e (.ro g)=f:=by grind[U.ah,U.ao]
def Step.HG (d:Holds u f l) (b:f.read e=some g): ∃k,Step u f l k (f.set e (.ro g)) l:=by
 unfold U.read at b;split at b
 .rename_i h c;obtain rfl:=a4v b;exact Step.freeze d c
 .rename_i h c;obtain rfl:=a4v b;rw[Af c];exact⟨u,.refl d⟩
 .rename_i T h c;obtain rfl:=a4v b;exact Step.vF d (.inr (.inl ⟨T,c⟩))
 .rename_i h c;obtain rfl:=a4v b;exact Step.vF d (.inr (.inr c))
 .cases b
theorem Ag (V:TypeId) (x:Operand) (y z:Option Operand) (k8:o.op= .slice V x y z none) (h:Nat) (r:TypeId) (p:m.underlying V=some (.array h r)) (b:Nat) (w:(m.info? r).map (·.size)=some b) (F:0<b) (W:Bool) (A:aQ x=true) (B:y.all aQ=true)
  (H:z.all aQ=true) (L:bK u a j) (P:Holds u f l) (c:G ⟨m,s⟩ (.kf b h x y z W) j f a7):bQ m s o a l u f a7:=by
 have e:=L.ak x A;simp only[G]at c;split at c
 case h_2=>trivial
 rename_i C D I;rw[I]at e;split at c
 case h_2=>trivial
 rename_i d k K M;obtain⟨N,O,Q,c⟩:=c;split at c
 case h_2=>trivial
 rename_i X g;obtain⟨k9,c⟩:=c;have l0:=e.kR;have Y:=Ae (m:=m) false h h y z d k (by simpa using gg L B K) (gg L H M) N O Q (a5c _) l;simp only[valOf]at Y;obtain⟨Z,l1,T,l2,l3,l4⟩:=P.read g;have i:(execOp a.eval o).run m l= .ok (.value (.slice (some (if h=d.toNat then⟨C,D,none⟩else⟨C,D+d.toNat*b,none⟩)) (k.toNat - d.toNat) (h - d.toNat))) l:=by
  cases j9:m.info? r with
  |none=>simp[j9]at w
  |some ii=>simp_all [execOp,Instr.sliceAt,run_underlying,Instr.sureAddr,sizeOf,typeInfo,hj]
 cases W with
 |true=>
  simp only[if_true]at c;obtain⟨l5,n⟩:=Step.HG P g;refine .value i n ?_ c;obtain⟨_,k0,l6,_,l7,q,k1⟩:=n.holds.dO C _ (U.ah _ _ _);have l8:k.toNat*b<=h*b:=a4L _ a8Z;have l9:(k.toNat - d.toNat)*b+d.toNat*b=k.toNat*b:=by rw[<-a5F];congr 1;omega
  have k2: ∀E∈X.drop (D+d.toNat*b),E.one=true:=λE t=>Z E (a5b t);obtain⟨k3,k4,v⟩:=vQ (i:=k.toNat - d.toNat) F a9b k2;by_cases k5:d.toNat=k.toNat
  .have r:=a4B (by rw[v];omega);rw[r,k5,a6O];exact .dg _ _ _ (λk6=>by simp at k6) trivial
  .rw[if_neg a8Z];refine .J C _ _ _ b (λS=>k0.getD (D+d.toNat*b+S) undef) _ .any F v.symm a8Z k3 (λE t=> ?_) (λS n0=> ?_) (λS k7 p=> ?_) trivial;grind
   .refine k1 _ ?_;have:=q.1;omega
   .rw[k4,List.getElem?_take]at p;split at p
    .rw[a7x]at p;exact q.2 _ k7 p
    .cases p
 |false=>simp only[a5A,if_false]at c;refine .same P i ?_ c.2;rw[if_neg a8Z];exact .bA _ _ _ _ _ F a8Z
theorem Ah (h:List Value): ∀(b c:Nat) (d:Array Value),c+b+h.length<=d.size->
  (h.zipIdx b).foldl (λ(r:Array Value) (k:Value×Nat)=>r.setIfInBounds (c+k.2) k.1) d=dh d (c+b) h:=by
 induction h with
 |nil=>intro b c d p;apply a8H;simp[dh]
 |cons y h ih=>
  intro b c d p;simp only[a4C]at p;rw[List.zipIdx_cons,a5C,ih (b+1) c _ a9b];apply a8H;simp only[dh,Array.toList_setIfInBounds,a4C];have x:c+b<d.toList.length:=a9b;rw[a5N,if_pos x];have z:(d.toList.take (c+b)).length=c+b:=by simp only[a4z];omega
  rw[show c+(b+1)=(d.toList.take (c+b)).length+1 by omega,a7i];rw[show(d.toList.take (c+b)).length+1+h.length=(d.toList.take (c+b)).length+(h.length+1) by omega,a7j];grind[List.append_assoc,List.drop_drop]
theorem Ai (F:Nat->Option (Nat×Nat)) (C:bl): ∀(r:List (Nat×Operand)) (res:List (Nat×Nat×Operand)) (b:Array Value) (c:List R) (x:List R->Prop),
  r.length=res.length->(∀(p:Nat) (d:Nat×Operand) (h:Nat×Nat×Operand),r[p]? =some d->res[p]? =some h->F d.1=some (h.1,h.2.1)/\d.2=h.2.2/\aQ d.2=true/\0<h.2.1)->bK C a j->br C b c->(∀y∈c,y.one=true)->kk j c res x->
  ∃D z,Instr.fill F b (r.map λd=>(d.1,a.eval d.2))=some D/\br C D z/\(∀y∈z,y.one=true)/\x z
 | [],[],b,c,x,_,_,_,E,G,L=>⟨b,c,rfl,E,G,L⟩
 |(t,k)::r,(off,cm,u)::res,b,c,x,f,P,S,E,G,L=>by
  obtain⟨T,V,W,g⟩:=P 0 _ _ rfl rfl;simp only at T V W g;subst V;obtain⟨i,v,l⟩:=L;obtain⟨e,c2⟩:=(S.ak k W).cells a8Z;have w:(a.eval k).cells.size=cm:=by rw[e.1,i]
  obtain⟨D,z,m,n,q,s⟩:=Ai F C r res (dh b off (a.eval k).cells.toList) (putAt c off (ak j k).cells) x (by simpa using f) (λp d h A B=>P (p+1) d h (by trivial) (by trivial)) S
   (E.putAt e off a8Z) (tl G c2 off) l
  refine⟨D,z,?_,n,q,s⟩;simp only[a4U,Instr.fill,T];have H:off+(a.eval k).cells.size<=b.size:=by have:=E.1;omega
  rw[if_neg a9b];rw[show(a.eval k).cells.zipIdx.foldl (λc (y,p)=>c.setIfInBounds (off+p) y) b=dh b off (a.eval k).cells.toList by
   rw[<-Array.foldl_toList,a8O];simp_all [Ah]]
  exact m
def HH (k:TypeId) (c:Array (Nat×Operand)) (D:o.op= .build k c) (x:Nat->Option (Nat×Nat)) (b:Array Value) (p:List (Nat×Nat×Operand))
  (E: ∀y:List (Nat×Value),m.built k y=Instr.fill x b y) (F: ∀d∈b.toList,d.oneCell'=true) (L:c.toList.length=p.length)
  (P: ∀(z:Nat) (r:Nat×Operand) (h:Nat×Nat×Operand),c.toList[z]? =some r->p[z]? =some h->x r.1=some (h.1,h.2.1)/\r.2=h.2.2/\aQ r.2=true/\0<h.2.1)
  (S:bK u a j) (T:Holds u f l) (V:G ⟨m,s⟩ (.lH (b.toList.map cT) p) j f a7):bQ m s o a l u f a7:=by
 obtain⟨W,w,e,C,g,i⟩:=Ai x u c.toList p b (b.toList.map cT) (λn=>a7 (.agg n) f) L P S (br.oN u b F) (λA q=>by obtain⟨d,_,rfl⟩:=a4R.1 q;exact nK d) V;have t:m.built k (c.map λ(v,d)=>(v,a.eval d)).toList=some W:=by rw[E,a6V];exact e
 exact .same T (by simp only[execOp,D,Sem.run_bind,run_build l k _ _ t];rfl) (.agg _ _ g C.1 C.2) i
theorem vR {b:Nat} (T:0<b): ∀(p:List Operand) (c:Nat) (k:Array Value) (d:List R),(∀h∈p,aQ h=true)->bK u a j->br u k d->(∀r∈d,r.one=true)->(∀C∈p.map (ak j),C.cells.length=b)->d.length=(c+p.length)*b->
  ∃y x,Instr.fill (λc=>some (c*b,b)) k ((p.zipIdx c).map λE=>(E.2,a.eval E.1))=some y/\br u y x/\(∀r∈x,r.one=true)/\x=d.take (c*b)++flat (p.map (ak j))
 | [],c,k,d,_,_,z,D,_,hlen=>⟨k,d,rfl,z,D,by simp[flat];grind⟩
 |h::p,c,k,d,F,G,z,D,L,hlen=>by
  have V:(ak j h).cells.length=b:=L _ a9a;obtain⟨P,c2⟩:=(G.ak h (F h a9a)).cells a8Z;have n:(a.eval h).cells.size=b:=by rw[P.1,V]
  simp only[a4C]at hlen;have q:c*b+b<=d.length:=by grind
  obtain⟨y,x,W,e,f,g⟩:=vR T p (c+1) (dh k (c*b) (a.eval h).cells.toList) (putAt d (c*b) (ak j h).cells) (λi l=>F i (by simp[l])) G (z.putAt P _ a8Z) (tl D c2 _)
   (λC S=>L C (by simp at S|-;exact .inr S)) (by grind[eH])
  refine⟨y,x,?_,e,f,?_⟩
  .simp only[List.zipIdx_cons,a4U,Instr.fill];have s:c*b+(a.eval h).cells.size<=k.size:=by have:=z.1;omega
   rw[if_neg a9b];rw[show(a.eval h).cells.zipIdx.foldl (λd (r,m)=>d.setIfInBounds (c*b+m) r) k=dh k (c*b) (a.eval h).cells.toList by
    rw[<-Array.foldl_toList,a8O];simp_all [Ah]]
   exact W
  .rw[g];simp only[putAt,flat,a4U,a4Y];have t:(d.take (c*b)++(ak j h).cells).length=(c+1)*b:=by rw[a5F];simp;omega
   grind
def Aj (C:TypeId) (c:Nat) (D:Array (Nat×Value)) (h:TypeId) (G:m.underlying C=some (.slice h)) (b:TypeInfo) (E:m.info? h=some b) (r:Value) (L:b.zero=some r) (V:c*b.size<=2^24) (x:Array Value) (p:x=if c*b.size=0 then #[]else r.cells)
  (F:Array Value) (y:Instr.fill (λz=>some (z*b.size,b.size)) ((Array.range (c*b.size)).map (λz=>x[z%x.size]!)) D.toList=some F) (d:World):
  (Instr.buildSlice C c D).run m d= .ok (.slice (some ⟨d.heap.size,0,none⟩) c c) (d.alloc (.cells F h)):=by
 have P: ¬(c*b.size>2^24):=a8Z;have S:(sizeOf h).run m d= .ok b.size d:=by simp[sizeOf,typeInfo,E]
 have T:(zeroValue h).run m d= .ok r d:=by simp[zeroValue,typeInfo,E,L]
 unfold Instr.buildSlice;simp only[Sem.run_bind,run_underlying G,Result.andThen_ok,S];rw[if_neg P];by_cases k:c*b.size=0
 .rw[if_pos k]at p;subst p;simp only[k,if_true];rw[k]at y;rw[Sem.run_bind];simp only[Sem.run_pure,Result.andThen_ok,y];rfl
 .rw[if_neg k]at p;subst p;simp only[k,if_false];rw[Sem.run_bind];simp only[T,Result.andThen_ok];rw[Sem.run_bind];simp only[Sem.run_pure,Result.andThen_ok,y];rfl
theorem Ak (g:TypeId) (c:Nat) (S:Array (Nat×Operand)) (r:o.op= .buildSlice g c S) (x:TypeId) (i:m.underlying g=some (.slice x)) (b:TypeInfo) (M:m.info? x=some b) (D:Value) (N:b.zero=some D) (k6:D.cells.size=b.size) (k7: ∀d∈D.cells.toList,d.oneCell'=true)
  (T:0<b.size) (O:c*b.size<=2^24) (k:List Operand) (k8:S.toList=(k.zipIdx 0).map λF=>(F.2,F.1)) (E:k.length=c) (Q: ∀d∈k,aQ d=true)
  (X:bK u a j) (z:Holds u f l) (C:G ⟨m,s⟩ (.ke b.size k) j f a7):bQ m s o a l u f a7:=by
 simp only[G]at C;obtain⟨n,C⟩:=C
 let eN:Array Value:=if c*b.size=0 then #[]else D.cells
 let y:Array Value:=(Array.range (c*b.size)).map (λh=>eN[h%eN.size]!);have Y: ∀d∈y.toList,d.oneCell'=true:=by
  intro d q;by_cases L:c*b.size=0
  .simp[y,L]at q
  .have k9:eN=D.cells:=if_neg L;simp only[y,a6V,a4R]at q;obtain⟨h,_,rfl⟩:=q;grind[Nat.mod_lt]
 have Z:y.size=c*b.size:=by simp[y]
 obtain⟨p,l0,j9,B,k0,V⟩:=vR T k 0 y (y.toList.map cT) Q X (br.oN u y Y) (λH t=>by obtain⟨d,_,rfl⟩:=a4R.1 t;exact nK d) n (by simp[Z,E]);simp only[a7O,a6s,a4P]at V;have k1:(S.map λ(h,d)=>(h,a.eval d)).toList=(k.zipIdx 0).map λF=>(F.2,a.eval F.1):=by simp_all
 have I:(execOp a.eval o).run m l= .ok (.value (.slice (some ⟨l.heap.size,0,none⟩) c c)) (l.alloc (.cells p x)):=by have:=Aj g c (S.map λ(h,d)=>(h,a.eval d)) x i b M D N O eN rfl p (by rw[k1];exact j9) l;simp only[execOp,r,Sem.run_bind,this];rfl
 by_cases L:k.length=0
 .rw[if_pos L]at C;have k2:c=0:=a8Z;subst k2;refine .value I (b:=u.ext l.heap.size 0 p) ?_ (.dg _ _ .zero (λl1=>by rfl) rfl) C;have W:=Step.write (h7:=l.alloc (.cells p x)) z l.heap.size 0 p x f rfl rfl rfl a9a (heap_alloc_new l _) (λw _ A=>pQ l _ w A) (.inl rfl)
   (a5d _) (λo v P=>by rw[z.my]at P;cases P) (λk3 o K e=>e)
   (λo r=>by rw[z.ec]at r;cases r)
  exact W
 .rw[if_neg L]at C;have k4:p.size=c*b.size:=by rw[B.1,V,db n];simp[E]
  have W:=Step.write (h7:=l.alloc (.cells p x)) z l.heap.size (c*b.size) p x (f.set l.heap.size (.buf b.size k.length k.length)) rfl rfl rfl a9a (heap_alloc_new l _) (λw _ A=>pQ l _ w A) (.inl rfl)
   a8Z (λo v P=>by rw[z.my]at P;cases P) (λk3 o K e=>by rw[U.ao _ _ K]at e;exact e)
   (λo r=>by
    rw[U.ah]at r;obtain rfl:=a4v r;refine⟨T,a5c _,?_,p,x,heap_alloc_new l _,by rw[k4,E],λo r=> ?_⟩
    .have:k.length*1<=c*b.size:=by rw[E];exact a8P _ T
     unfold maxLen;omega
    .rw[bl.oM _ _ _ _ (by rw[E]at r;omega)];exact z.my o)
  refine .value I W ?_ (C _ z.ec);refine .J _ _ _ _ b.size (λh=>p.getD h undef) _ _ T (by simp[E]) a8Z n (λH t=>k0 H (by rw[V];exact t)) (λh l2=> ?_) (λh k5 i=> ?_) ⟨rfl,rfl,a8Z⟩;simp_all [bl.oL]
  .exact((B.2 h k5 (by rw[V];exact i))).mono W.le
theorem HI (E:TypeId) (d:Nat) (z:Array (Nat×Operand)) (V:o.op= .buildSlice E d z) (r:TypeId) (W:m.underlying E=some (.slice r)) (b:TypeInfo) (e:m.info? r=some b) (p:Value) (g:b.zero=some p) (w:p.cells.size=b.size) (A: ∀c∈p.cells.toList,c.oneCell'=true)
  (F:0<b.size) (i:d*b.size<=2^24) (h:List Operand) (B:z.toList=(h.zipIdx 0).map λC=>(C.2,C.1)) (L:h.length=d) (n: ∀c∈h,aQ c=true)
  (q:bK u a j) (P:Holds u f l) (x:G ⟨m,s⟩ (.kh b.size h) j f a7):bQ m s o a l u f a7:=by
 simp only[G]at x;obtain⟨H,x⟩:=x;by_cases D:h.length=0
 .rw[if_pos D]at x;refine Ak E d z V r W b e p g w A F i h B L n q P ?_;simp_all [G]
 rw[if_neg D]at x
 let eN:Array Value:=if d*b.size=0 then #[]else p.cells
 let k:Array Value:=(Array.range (d*b.size)).map (λy=>eN[y%eN.size]!);have I: ∀c∈k.toList,c.oneCell'=true:=by
  intro c S;by_cases D:d*b.size=0
  .simp[k,D]at S
  .have Y:eN=p.cells:=if_neg D;simp only[k,a6V,a4R]at S;obtain⟨y,_,rfl⟩:=S;grind[Nat.mod_lt]
 have K:k.size=d*b.size:=by simp[k]
 obtain⟨T,Z,M,N,j9,t⟩:=vR F h 0 k (k.toList.map cT) n q (br.oN u k I) (λO v=>by obtain⟨c,_,rfl⟩:=a4R.1 v;exact nK c) H (by simp[K,L]);simp only[a7O,a6s,a4P]at t;have Q:(z.map λ(y,c)=>(y,a.eval c)).toList=(h.zipIdx 0).map λC=>(C.2,a.eval C.1):=by simp_all
 have X:(execOp a.eval o).run m l= .ok (.value (.slice (some ⟨l.heap.size,0,none⟩) d d)) (l.alloc (.cells T r)):=by have:=Aj E d (z.map λ(y,c)=>(y,a.eval c)) r W b e p g i eN rfl T (by rw[Q];exact M) l;simp only[execOp,V,Sem.run_bind,this];rfl
 subst L;refine .value X (Step.new P T r _ (λO v=> ?_) ?_) (.an _ _ _ _ F (a5c _)) (x _ P.ec)
 .simp_all
 .rw[<-t];exact N
end
section
variable  {o:Oper}{a:Act}   
theorem aY.src (T:aY u e5 (.J g M)) (V:Holds u f l) (D: ∀W∈g,W.cells.length=e) (E:Program):
  ∃x:List Value,Src E l e g.length e5 x/\x.length=(flat g).length/\(∀b c,(flat g)[b]? =some c->aY u (x.getD b Go.undef) c)/\(∀y∈flat g,y.one=true):=by
 cases T with
 |dg d cap M bW i=>
  refine⟨[],⟨rfl,?_,?_,a9a⟩,rfl,λb c F=>by trivial,λy p=>by trivial⟩
  .cases d<;>simp[Builtin.firstCells,loadCells,loadCellsFrom]
  .cases d<;>simp[Builtin.firstCells,loadCells,loadCellsFrom]
 |J G off len cap h z xs M hk C s j m hH t i=>
  subst C;cases r:g with
  |nil=>subst r;refine⟨[],⟨rfl,?_,?_,a9a⟩,rfl,λb c F=>by trivial,λy p=>by trivial⟩<;>simp[Builtin.firstCells,loadCells,loadCellsFrom]
  |cons L w=>
   rw[<-r];have n:=(j L (by simp[r])).symm.trans (D L (by simp[r]));subst n;have C:=db D;have p: ∀(k),(∀d,k.cell? d=l.cell? d)->(Builtin.firstCells h g.length (.slice (some ⟨G,off,none⟩) g.length cap)).run E k= .ok ((List.range (g.length*h)).map z).toArray k:=λk q=>by
    refine run_firstCells_some k h g.length ⟨G,off,none⟩ g.length cap _ a9a (λb v P=> ?_);have S:b<g.length*h:=by grind
    rw[a4X,a6L S]at P;obtain rfl:z b=v:=by simpa using P
    rw[q,hj];exact V.ro _ _ _ (hH b S)
   refine⟨(List.range (g.length*h)).map z,⟨rfl,p l (λ_=>rfl),p l.drew (λ_=>rfl),a9a⟩,by simp[C],λb c F=> ?_,m⟩;grind
theorem oR (b c:List R):flat (b++c)=flat b++flat c:=by simp[flat]
def iP (b c:Operand) (d h:TypeId) (k:o.op= .call {callee:= .builtin .append,args:= #[b,c],argTypes:= #[d,h]}) {v:Value}
  (p:(Builtin.append_ #[d,h] o.type #[a.eval b,a.eval c]).run m l= .ok v h7):(execOp a.eval o).run m l= .ok (.value v) h7:=by
 simp[execOp,k,resolve,invoke,builtin,p]
theorem HJ (n S:Operand) (r:TypeId) (p:o.op= .call {callee:= .builtin .append,args:= #[n,S],argTypes:= #[r,r]}) (k:TypeId) (x:m.underlying r=some (.slice k)) (b:TypeInfo) (O:m.info? k=some b) (H:Value) (l2:b.zero=some H)
  (a13:H.cells.size=b.size) (Q:0<b.size) (a14:aQ n=true) (a15:aQ S=true) (n5:bK u a j) (V:Holds u f l) (y:G ⟨m,s⟩ (.app b.size b.bytes n S) j f a7):bQ m s o a l u f a7:=by
 have g:=n5.ak n a14;have n9:=n5.ak S a15;simp only[G]at y;split at y
 case h_2=>trivial
 rename_i d I h a61 K a16;rw[K]at g;rw[a16]at n9;obtain⟨a00,l3,a18,k7,y⟩:=y;obtain⟨z,q,a62,a19,a27⟩:=n9.src V l3 m;have a29: ∀F∈z,F.oneCell'=true:=λF x=>by
  obtain⟨c,L⟩:=a7k x;have a01:c<(flat h).length:=by grind
  have:=a19 c _ (a4w a01);rw[a5p,L]at this;exact this.nI (a27 _ (a4Z a01))
 have l4:=q.size;generalize X:a.eval n=a02 at g;have newRow: ∀(j9:List Value) (W C:Nat) (t:List R),t.length=W->j9.length=W*b.size->(∀k∈t,k.cells.length=b.size)->(∀c F,(flat t)[c]? =some F->aY u (j9.getD c undef) F)->(∀E∈flat t,E.one=true)->
   W+h.length<=C->C<=maxLen-> ∀k8:U,k8.sub f->
   let i:=j9.toArray++z.toArray++Builtin.zeroCells H.cells (C -(W+h.length))
   ∃k0,Step u f l k0 (k8.set l.heap.size (.buf b.size (W+h.length) C)) (l.drew.alloc (.cells i k))/\aY k0 (.slice (some ⟨l.heap.size,0,none⟩) (W+h.length) C) (.J (t++h) (.buf l.heap.size C)):=by
  intro j9 W C t l5 k1 a03 a63 a04 Y a30 k8 a34 i;have l6:i.size=C*b.size:=by simp only[i,Array.size_append,List.size_toArray,size_zeroCells,a13,k1,l4,<-a5F];congr 1;omega
  have k9:i.toList=j9++z++(Builtin.zeroCells H.cells (C -(W+h.length))).toList:=by simp[i]
  have l0:(flat (t++h)).length=(W+h.length)*b.size:=by rw[db (d:=b.size)];(simp[l5]);grind
  have a36: ∀c F,(flat (t++h))[c]? =some F->aY u (i.getD c undef) F:=λc F x=>by
   rw[oR]at x;have a05:(flat t).length=W*b.size:=by rw[db a03,l5]
   rw[a5t,<-a6e,k9];grind
  have a65:(W+h.length)*b.size<=C*b.size:=a4L _ Y;have a38:=V.drew;have e:=Step.write (h7:=l.drew.alloc (.cells i k)) a38 l.heap.size ((W+h.length)*b.size) i k (k8.set l.heap.size (.buf b.size (W+h.length) C)) rfl rfl rfl a9a (heap_alloc_new l.drew _) (λZ _ l7=>pQ l.drew _ Z l7) (.inl rfl)
   a8Z (λo v g=>by rw[V.my]at g;cases g) (λl8 o k2 k3=>by rw[U.ao _ _ k2]at k3;exact a34 l8 o k3)
   (λo p=>by
    rw[U.ah]at p;obtain rfl:=a4v p;refine⟨Q,Y,a30,i,k,heap_alloc_new l.drew _,l6,λo p=> ?_⟩;rw[bl.oM _ _ _ _ a8Z];exact V.my o)
  refine⟨_,(Step.drew V).trans e,?_⟩;refine .J _ _ _ _ b.size (λc=>i.getD c undef) _ _ Q (by simp[l5]) Y (λk K=>by grind) (λE l9=>by
   grind[oR]) (λc L=> ?_) (λc F x=>(a36 c F x).mono e.le) ⟨rfl,rfl,rfl⟩
  rw[a4W,bl.oL _ _ _ _ L];simp[show c<i.size by omega]
 cases I with
 |any=>trivial
 |nil=>
  obtain⟨rfl,y⟩:=y;have n0:a02= .slice none 0 0:=by
   cases g with
   |dg w C I bW p=>simp only[Own.lE]at p;subst p;rw[bW rfl]
   |J Z off len C n1 A d I Q l0 Y l3 a42 hH a06 p=>trivial
  subst n0;by_cases M:h= []
  .subst M;rw[if_pos rfl]at y;have a07:=a4B (by trivial);refine .same V (iP n S r r p ?_) (.dg _ _ .nil (λ_=>rfl) rfl) y;rw[X];have k4:=q.len;have k5:=q.cells;simp only[a4G]at k4 k5;simp[Builtin.append_,run_underlying x,sizeOf,typeInfo,O,k4,k5]
  .rw[if_neg M]at y;have a43:=a5E.2 M;have B:=pS l r r o.type k b H x _ x (.inl ⟨k,rfl⟩) O l2 none 0 0 [] a9a a9f h.length (a.eval S) z q a8Z (by simp only[a4G]at k7;omega) (by trivial);simp only[a4W]at B;have n2:=grownCap_ge l h.length 0 k;have k6:=grownCap_le_maxLen l h.length 0 k (by unfold maxLen;simp only[a4G]at k7;omega);obtain⟨k0,e,N⟩:=newRow [] 0 (grownCap l h.length 0 k) [] rfl a9a (λk K=>by simp at K) (λc F x=>by trivial) (λE l9=>by trivial) a8Z k6 f (λ_ _ n3=>n3);simp only[a4W,a4P]at e N;refine .value (iP n S r r p (by rw[X];exact B)) e N (y _ _ V.ec)
 |zero=>
  obtain⟨rfl,y⟩:=y;have n0: ∃w,a02= .slice w 0 0:=by
   cases g with
   |dg w C I bW p=>simp only[Own.lE]at p;subst p;simp
   |J Z off len C n1 A d I Q l0 Y l3 a42 hH a06 p=>trivial
  obtain⟨w,rfl⟩:=n0;by_cases M:h= []
  .subst M;rw[if_pos rfl]at y;have a07:=a4B (by trivial);refine .same V (iP n S r r p (v:= .slice w 0 0) ?_) (.dg _ _ .zero (λ_=>rfl) rfl) y;rw[X];have k4:=q.len;have k5:=q.cells;simp only[a4G]at k4 k5;subst a07;cases w<;>simp[Builtin.append_,run_underlying x,sizeOf,typeInfo,O,k4,k5,storeCells]
  .rw[if_neg M]at y;have a43:=a5E.2 M;have B:=pS l r r o.type k b H x _ x (.inl ⟨k,rfl⟩) O l2 w 0 0 [] a9a (by cases w<;>simp[Builtin.firstCells,loadCells,loadCellsFrom]) h.length (a.eval S) z q a8Z (by simp only[a4G]at k7;omega) (by trivial);simp only[a4W]at B;have n2:=grownCap_ge l h.length 0 k;have k6:=grownCap_le_maxLen l h.length 0 k (by unfold maxLen;simp only[a4G]at k7;omega);obtain⟨k0,e,N⟩:=newRow [] 0 (grownCap l h.length 0 k) [] rfl a9a (λk K=>by simp at K) (λc F x=>by trivial) (λE l9=>by trivial) a8Z k6 f (λ_ _ n3=>n3);simp only[a4W,a4P]at e N;refine .value (iP n S r r p (by rw[X];exact B)) e N (y _ _ V.ec)
 |buf P E=>
  obtain⟨a08,y⟩:=y;obtain⟨_,a68,a47,D,T,n4,a09,a69⟩:=V.dO P _ a08;cases g with
  |dg w C I bW p=>trivial
  |J Z off len C n1 A d I a71 l0 Y a03 a04 hH a06 p=>
   obtain⟨rfl,rfl,rfl⟩:=p;subst l0;have a73:d.length*n1=d.length*b.size:=by
    cases a74:d with
    |nil=>simp
    |cons gG a81=>simp_all
   have a10: ∀c,c<d.length*b.size->u P c=some (A c):=λc L=>by
    simp_all
   have a48: ∀c,c<d.length*b.size->D[c]? =some (A c):=λc L=>by
    have:=V.ro _ _ _ (a10 c L);grind[cell_of_row]
   have a83:d.length*b.size<=D.size:=by rw[a09];grind
   by_cases l1:d.length+h.length<=E
   .
    have a11:d.length*b.size+z.length<=D.size:=by rw[l4,a09,<-a5F];exact a4L _ l1
    have B:=A8 l r r o.type k b x _ x (.inl ⟨k,rfl⟩) O P d.length E D T _ n4 (vG _) h.length (a.eval S) z q a29 l1 a11;have l6:(dh D (d.length*b.size) z).size=D.size:=by simp[dh];omega
    have k9:(dh D (d.length*b.size) z).toList=D.toList.take (d.length*b.size)++z++D.toList.drop (d.length*b.size+z.length):=by rfl
    have a84: ∀c,c<d.length*b.size->(dh D (d.length*b.size) z)[c]? =some (A c):=λc L=>by
     rw[<-a6e,k9,a4J,a6n a9b,a5w L,a6e];exact a48 c L
    have a05:=db a00;have e:=Step.write (h7:=l.setRow P (dh D (d.length*b.size) z)) V P ((d.length+h.length)*b.size) (dh D (d.length*b.size) z) T ((f.del P).set P (.buf b.size (d.length+h.length) E)) rfl rfl rfl a9a (setRow_heap l P D _ T _ n4)
     (λZ _ l7=>setRow_other l P Z _ l7) (.inr (by simp[a08])) (by rw[l6,a5F,<-l4];exact a11)
     (λo v g=>by
      grind)
     (λl8 o k2 k3=>by rw[U.ao _ _ k2,U.eG _ k2]at k3;exact k3)
     (λo p=>by
      rw[U.ah]at p;obtain rfl:=a4v p;refine⟨Q,l1,a47,_,T,setRow_heap l P D _ T _ n4,a8Z,λo p=> ?_⟩;grind[bl.oM,Nat.le_trans,Nat.mul_le_mul_right])
    refine .value (iP n S r r p (by rw[X];exact B)) e ?_ (y P E (.inl rfl));refine .J _ _ _ _ b.size (λc=>(dh D (d.length*b.size) z).getD c undef) _ _ Q a9a l1 (λk K=>by grind) (λE l9=>by
     grind[oR]) (λc L=> ?_) (λc F x=> ?_) ⟨rfl,rfl,rfl⟩
    .rw[a4W,bl.oL _ _ _ _ L];have:c<(dh D (d.length*b.size) z).size:=by grind
     simp[this]
    .refine aY.mono e.le ?_;rw[oR]at x;by_cases L:c<d.length*b.size
     .rw[a6n a8Z]at x;simp_all
     .rw[a7n a8Z,a05]at x;have a52:c - d.length*b.size<z.length:=by grind
      have a56:(D.toList.take (d.length*b.size)).length=d.length*b.size:=a9b;rw[a5t,<-a6e,k9,a4J,a7n a8Z,a56,a6n a52];grind
   .
    have k1:((List.range (d.length*b.size)).map A).length=d.length*b.size:=a9a;have a57:(Builtin.firstCells b.size d.length (.slice (some ⟨P,0,none⟩) d.length E)).run m l.drew= .ok ((List.range (d.length*b.size)).map A).toArray l.drew:=by
     refine run_firstCells_some l.drew b.size d.length ⟨P,0,none⟩ d.length E _ k1 (λc v g=> ?_);have L:c<d.length*b.size:=by grind
     rw[a4X,a6L L]at g;obtain rfl:A c=v:=by simpa using g
     rw[hj,a4W];exact V.ro _ _ _ (a10 c L)
    have B:=pS l r r o.type k b H x _ x (.inl ⟨k,rfl⟩) O l2 (some ⟨P,0,none⟩) d.length E _ k1 a57 h.length (a.eval S) z q a8Z a8Z a18;have n2:=grownCap_ge l (d.length+h.length) E k;have k6:=grownCap_le_maxLen l (d.length+h.length) E k (by unfold maxLen;omega);obtain⟨k0,e,N⟩:=newRow ((List.range (d.length*b.size)).map A) d.length (grownCap l (d.length+h.length) E k) d rfl k1 a00 (λc F x=>by
      grind[db,List.getElem?_eq_some_iff,List.getD]) a04 n2 k6 (f.del P) (λl8 o k2=>by
      grind[U.il,U.eG])
    exact .value (iP n S r r p (by rw[X];exact B)) e N (y _ _ (.inr V.ec))
theorem vS (G:aY u e5 n) (S:Holds u f l) (b:bN f e n=some (i,g)) (D:Program):
  ∃p:List Value,Src D l e i e5 p/\p.length=g.length/\(∀k r,g[k]? =some r->aY u (p.getD k Go.undef) r)/\(∀z∈g,z.one=true):=by
 have q: ∀(y d c x) (h),f.read y=some h->d+c*e<=h.length->
   ∃p:List Value,Src D l e c (.slice (some ⟨y,d,none⟩) c x) p/\p.length=((h.drop d).take (c*e)).length/\(∀k r,((h.drop d).take (c*e))[k]? =some r->aY u (p.getD k Go.undef) r)/\(∀z∈(h.drop d).take (c*e),z.one=true):=by
  intro y d c x h E L;obtain⟨s,P,T,A,B,V⟩:=S.read E;have H:=V.1;have t:((P.toList.drop d).take (c*e)).length=c*e:=a9b;have W: ∀(F),(∀j,F.cell? j=l.cell? j)->(Builtin.firstCells e c (.slice (some ⟨y,d,none⟩) c x)).run D F= .ok ((P.toList.drop d).take (c*e)).toArray F:=λF I=>by
   grind[run_firstCells_some,List.getElem?_eq_some_iff,hj,cell_of_row,List.getElem?_take_of_lt]
  refine⟨(P.toList.drop d).take (c*e),⟨rfl,W l (λ_=>rfl),W l.drew (λ_=>rfl),t⟩,a9b,λk r m=> ?_,λz C=>s z (a5b (a4K C))⟩;have v:k<c*e:=by grind
  rw[a5w v,a7x]at m;have:=V.2 (d+k) r m;grind[List.getElem?_eq_some_iff,List.getElem?_take_of_lt,Array.getD_eq_getD_getElem?]
 unfold bN at b;split at b
 .rename_i K M;split at b
  case isFalse=>cases b
  rename_i N;simp only[a4H,a5G]at b;obtain⟨rfl,rfl⟩:=b;exact G.src S (by simp_all) D
 .split at b
  case h_2=>cases b
  rename_i h E;split at b
  case isFalse=>cases b
  rename_i C;simp only[a4H,a5G]at b;obtain⟨rfl,rfl⟩:=b;obtain⟨rfl,L⟩:=C;cases G with
  |an y c x e hk w=>have O:=λx=>q _ 0 _ x h E (by rw[a4W];exact L);simp_all
 .split at b
  case h_2=>cases b
  rename_i h E;split at b
  case isFalse=>cases b
  rename_i C;simp only[a4H,a5G]at b;obtain⟨rfl,rfl⟩:=b;obtain⟨rfl,L⟩:=C;cases G with
  |bA y d c x e hk w=>simp_all
 .cases b
def HK (z:aY u e5 n) (F:Holds u f l) (c:mJ f e n=some (i,g)) (r:Program):
  ∃x:List Value,Src r l e i e5 x/\x.length=g.length/\(∀h k,g[h]? =some k->aY u (x.getD h Go.undef) k)/\(∀C∈g,C.one=true):=by
 unfold mJ at c;split at c
 .rename_i b;split at c
  case isFalse=>cases c
  rename_i G;simp only[a4H,a5G]at c;obtain⟨rfl,rfl⟩:=c;subst G;obtain rfl:=z.dQ;have P:b.data.toList.length=b.size:=a9a;have D: ∀y:World,(Builtin.firstCells 1 b.size (.string b)).run r y= .ok (b.data.toList.map λd=>Value.int .u8 d.toNat).toArray y:=λy=>by
   simp only[Builtin.firstCells,Sem.run_pure];have:b.extract 0 b.size=b:=a9a;rw[this];congr 1;apply a8H;simp
  refine⟨b.data.toList.map λd=>Value.int .u8 d.toNat,⟨rfl,D l,D l.drew,a9a⟩,a9a,λh k p=> ?_,λC L=> ?_⟩
  .rw[a4X]at p;rw[a5p,a4X];cases E:b.data.toList[h]? with
   |none=>simp[E]at p
   |some d=>
    rw[E]at p;obtain rfl:al d=k:=by simpa using p
    exact .v _ rfl
  .obtain⟨d,_,rfl⟩:=a4R.1 L;rfl
 .exact vS z F c r
theorem Al (h: ∀b∈j8.toList,b.oneCell'=true) (d:Nat): ∀b∈(Builtin.zeroCells j8 d).toList,b.oneCell'=true:=by intro b c;unfold Builtin.zeroCells at c;simp only[a6V,a4R]at c;obtain⟨k,p,rfl⟩:=c;grind[Nat.eq_zero_or_pos,Nat.mod_lt]
theorem Am (z C:Operand) (D E:TypeId) (I:TypeDesc) (Y:m.underlying E=some I) (Z:(∃a08,I= .slice a08)\/I= .string) (e:o.op= .call {callee:= .builtin .append,args:= #[z,C],argTypes:= #[D,E]}) (r:TypeId) (K:m.underlying D=some (.slice r)) (c:TypeInfo) (j9:m.info? r=some c) (M:Value) (n5:c.zero=some M)
    (a29:M.cells.size=c.size) (a30: ∀z∈M.cells.toList,z.oneCell'=true) (k0:0<c.size) (a34:aQ z=true) (a36:aQ C=true) (a09:bK u a j) (P:Holds u f l) (h:G ⟨m,s⟩ (.lJ c.size c.bytes z C) j f a7):bQ m s o a l u f a7:=by
  have A:=a09.ak z a34;have a38:=a09.ak C a36;simp only[G]at h;split at h
  case h_2=>trivial
  rename_i k B a42;obtain⟨g,N,n9,a43,n0⟩:=HK a38 P a42 m;have a10: ∀n1∈g,n1.oneCell'=true:=λn1 K=>by
    obtain⟨S,a00⟩:=a7k K;have a11:S<B.length:=by grind
    have:=a43 S _ (a4w a11);rw[a5p,a00]at this;exact this.nI (n0 _ (a4Z a11))
  have a13:=N.size;have a01:br u g.toArray B:=br.dP.2 ⟨by trivial,λS a14 n1 a83 a84=>by
    grind⟩
  generalize k1:a.eval z=a14 at A;have newRow: ∀(n2:List Value) (b d:Nat) (F:List R),n2.length=b*c.size->br u n2.toArray F->(∀i∈F,i.one=true)->b+k<=d->
      let y:=n2.toArray++g.toArray++Builtin.zeroCells M.cells (d -(b+k))
      ∃n:List R,n.length=(d -(b+k))*c.size/\Step u f l u (f.set l.heap.size (.cells (F++B++n))) (l.drew.alloc (.cells y r)):=by
    intro n2 b d F O k7 k2 k8 y;have a47:=Al a30 (d -(b+k));have V:=br.oN u _ a47;refine⟨(Builtin.zeroCells M.cells (d -(b+k))).toList.map cT,by simp[size_zeroCells,a29],?_⟩;refine(Step.drew P).trans (Step.new P.drew y r _ (λi W=> ?_) ?_)
    . simp only[a4M,a4R]at W
      rcases W with (W|W)|⟨z,_,rfl⟩
      . exact k2 i W
      . exact n0 i W
      . exact nK z
    . rw[br.dP]at k7 a01 V|-
      grind
  split at h
  . rename_i a48 n3 k9
    rw[k9]at A;obtain⟨rfl,a15,H,k3,h⟩:=h;have a52: ∃Q,a14= .slice Q 0 0/\(n3= .nil->Q=none):=by
      cases A with
      |dg Q d n3 bW e=>
        rcases a15 with rfl|rfl
        . simp only[Own.lE]at e;simp[*]
        . simp only[Own.lE]at e;simp[*]
      |J a86 L len d a16 a88 a48 n3 k0 hlen k8 a89 k2 hH a90 e=>rcases a15 with rfl|rfl<;>exact e.elim
    obtain⟨Q,rfl,a92⟩:=a52;by_cases a18:k=0
    . subst a18
      rw[if_pos rfl]at h;have a56:g= []:=a4B (by simpa using a13);subst a56;have a57:aY u (.slice Q 0 0) (.J [] n3):=by omega
      refine .same P (iP z C D E e ?_) a57 h;rw[k1];have a61:=N.len;have a62:=N.cells;rcases Z with ⟨a08,rfl⟩|rfl<;>cases Q<;>simp[Builtin.append_,run_underlying K,run_underlying Y,sizeOf,typeInfo,j9,a61,a62,storeCells]
    . rw[if_neg a18]at h
      have V:=pS l D E o.type r c M K I Y Z j9 n5 Q 0 0 [] a9a (by cases Q<;>simp[Builtin.firstCells,loadCells,loadCellsFrom]) k (a.eval C) g N a8Z a8Z (by simpa using H);simp only[a4W]at V;have t:=grownCap_ge l k 0 r;have l0:=grownCap_le_maxLen l k 0 r (by unfold maxLen;omega);obtain⟨n,k4,k5⟩:=newRow [] 0 (grownCap l k 0 r) [] a9a ⟨rfl,λS n1 a63=>by simp at a63⟩ (λi W=>by simp at W) a8Z;simp only[a4W,a4P]at k5 k4;exact .value (iP z C D E e (by rw[k1];exact V)) k5 (.an _ _ _ _ k0 t) (h _ _ n P.ec t l0 k4)
  . rename_i x b d a19 k9
    rw[k9]at A;have a27: ∀(p:List R) (a02:List R->bq),f.read x=some p->a19=c.size->p.length=d*c.size->(b+k)*c.bytes<=140737488355328->b+k<=9223372036854775807->
        (∀(F:List R) (k6:Array Value),br u k6 F->(∀i∈F,i.one=true)->b*c.size+F.length<=p.length-> ∃y T l1,l.heap[x]? =some (.cells y T l1)/\(∀S,S<y.size-> ¬(l1.1<=S/\S<l1.2))/\y.size=p.length/\Step u f l u (f.set x (a02 (putAt p (b*c.size) F))) (l.setRow x (dh y (b*c.size) k6.toList)))->
        (if b+k<=d then a7 (.an x (b+k) d c.size) (f.set x (a02 (putAt p (b*c.size) B)))
           else∀a03 n4 n,f a03=none->b+k<=n4->n4<=maxLen->n.length=(n4 -(b+k))*c.size->a7 (.an a03 (b+k) n4 c.size) (f.set a03 (.cells (p.take (b*c.size)++B++n))))->bQ m s o a l u f a7:=by
      clear h;intro p a02 w l2 X H k3 a65 h;subst l2;obtain⟨k2,y,T,l1,a68,l3⟩:=P.read w;have a69:=l3.1;cases A with
      |an x b d a16 a71 k8=>
        have a73:b*c.size<=p.length:=by rw[X];exact a4L _ k8
        by_cases q:b+k<=d
        . rw[if_pos q]at h
          have l4:b*c.size+B.length<=p.length:=by rw[<-n9,a13,X,<-a5F];exact a4L _ q
          obtain⟨l5,l6,a74,l7,a81,l8,l9⟩:=a65 B g.toArray a01 n0 l4;have V:=A8 l D E o.type r c K I Y Z j9 x b d l5 l6 a74 l7 a81 k (a.eval C) g N a10 q (by rw[l8,n9];exact l4);exact .value (iP z C D E e (by rw[k1];exact V)) l9 (.an _ _ _ _ k0 q) h
        . rw[if_neg q]at h
          have O:(y.toList.take (b*c.size)).length=b*c.size:=a9b;have a04:(Builtin.firstCells c.size b (.slice (some ⟨x,0,none⟩) b d)).run m l.drew= .ok (y.toList.take (b*c.size)).toArray l.drew:=by
            refine run_firstCells_some l.drew c.size b ⟨x,0,none⟩ b d _ O (λS v A=> ?_);have a00:S<b*c.size:=by grind
            rw[hj,a4W];show l.cell? _= _;grind[cell_of_row,List.getElem?_take_of_lt]
          have V:=pS l D E o.type r c M K I Y Z j9 n5 (some ⟨x,0,none⟩) b d _ O a04 k (a.eval C) g N a8Z a8Z H;have t:=grownCap_ge l (b+k) d r;have l0:=grownCap_le_maxLen l (b+k) d r (by unfold maxLen;omega);have k7:br u (y.toList.take (b*c.size)).toArray (p.take (b*c.size)):=by rw[br.dP]at l3|-;grind
          obtain⟨n,k4,k5⟩:=newRow _ b (grownCap l (b+k) d r) (p.take (b*c.size)) O k7 (λi W=>k2 i (a4K W)) t;exact .value (iP z C D E e (by rw[k1];exact V)) k5 (.an _ _ _ _ k0 t) (h _ _ n P.ec t l0 k4)
    split at h
    . rename_i p w
      obtain⟨l2,X,H,k3,h⟩:=h;refine a27 p .cells (by simp[U.read,w]) l2 X H k3 (λF k6 a05 a06 a07=> ?_) h;obtain⟨l5,l6,l7,l8,l9⟩:=Step.store P w (b*c.size) F k6 a05 a06 a07;grind
    . rename_i p w
      obtain⟨l2,X,H,k3,h⟩:=h;refine a27 p .fB (by simp[U.read,w]) l2 X H k3 (λF k6 a05 a06 a07=> ?_) h;obtain⟨l5,l6,l7,l8,l9⟩:=Step.H8 P w (b*c.size) F k6 a05 a06 a07;grind
    . trivial
  . rename_i x L b d a19 k9
    rw[k9]at A;split at h
    case h_2=>trivial
    rename_i p w;obtain⟨rfl,X,H,k3,h⟩:=h;obtain⟨k2,y,T,l1,a68,l3⟩:=P.read (l:=x) (p:=p) (by simp[U.read,w]);have a69:=l3.1;cases A with
    |bA x L b d a16 a71 k8=>
      have a73:b*c.size<=d*c.size:=a4L _ k8;by_cases q:b+k<=d
      . rw[if_pos q]at h
        have l4:L+b*c.size+B.length<=p.length:=by have:=a4L c.size q;grind
        obtain⟨l5,l6,l7,l8,l9⟩:=Step.store P w (L+b*c.size) B g.toArray a01 n0 l4;have V:=Hb l D E o.type r c K I Y Z j9 x L b d l5 l6 _ l7 (vG _) k (a.eval C) g N a10 q (by rw[l8,n9];exact l4);exact .value (iP z C D E e (by rw[k1];exact V)) l9 (.bA _ _ _ _ _ k0 q) h
      . rw[if_neg q]at h
        have O:((y.toList.drop L).take (b*c.size)).length=b*c.size:=a9b;have a04:(Builtin.firstCells c.size b (.slice (some ⟨x,L,none⟩) b d)).run m l.drew= .ok ((y.toList.drop L).take (b*c.size)).toArray l.drew:=by
          refine run_firstCells_some l.drew c.size b ⟨x,L,none⟩ b d _ O (λS v A=> ?_);have a00:S<b*c.size:=by grind
          rw[hj];show l.cell? _= _;grind[cell_of_row,List.getElem?_take_of_lt]
        have V:=pS l D E o.type r c M K I Y Z j9 n5 (some ⟨x,L,none⟩) b d _ O a04 k (a.eval C) g N a8Z a8Z H;have t:=grownCap_ge l (b+k) d r;have l0:=grownCap_le_maxLen l (b+k) d r (by unfold maxLen;omega);have k7:br u ((y.toList.drop L).take (b*c.size)).toArray ((p.drop L).take (b*c.size)):=by rw[br.dP]at l3|-;grind
        obtain⟨n,k4,k5⟩:=newRow _ b (grownCap l (b+k) d r) ((p.drop L).take (b*c.size)) O k7 (λi W=>k2 i (a5b (a4K W))) t;exact .value (iP z C D E e (by rw[k1];exact V)) k5 (.an _ _ _ _ k0 t) (h _ _ n P.ec t l0 k4)
  . trivial
end
variable{b0:Type}
section
variable  {o:Oper}{a:Act}   
def U.set_set (c:U) (b:Nat) (h d:bq):(c.set b h).set b d=c.set b d:=by funext k;simp only[U.set];split<;>rfl
theorem HL (c:TypeId) (b:Operand) (r:o.op= .box c b) (x:aQ b=true) (y:bK u a j) (d:Holds u f l) (h:G ⟨m,s⟩ (.kd c b) j f a7):bQ m s o a l u f a7:=by obtain⟨z,C⟩:=(y.ak b x).cells h.1;have k:=Step.new d (a.eval b).cells c _ C z;obtain⟨D,p⟩:=Step.freeze k.holds (U.ah f l.heap.size (.cells (ak j b).cells));rw[U.set_set]at p;refine .value ?_ (k.trans p) (.ptr _ _) (h.2 _ d.ec);simp[execOp,r,Instr.box,newVar,newRow]
theorem HM (p:TypeId) (c:Operand) (d h:Option Operand) (y:o.op= .slice p c d h none) (r:Nat) (x:TypeId) (z:m.underlying p=some (.array r x)) (k:Nat) (C:(m.info? x).map (·.size)=some k) (D:0<k) (E:aQ c=true) (F:d.all aQ=true)
  (L:h.all aQ=true) (P:bK u a j) (S:Holds u f l) (b:G ⟨m,s⟩ (.ju k r c d h) j f a7):bQ m s o a l u f a7:=by
 refine Ag p c d h y r x z k C D true E F L P S ?_;simp only[G]at b|-;split at b
 case h_2=>trivial
 rename_i V W e;split at b
 case h_2=>trivial
 refine⟨b.1,b.2.1,b.2.2.1,?_⟩;have T:=b.2.2.2;split at T
 case h_2=>trivial
 simp_all [U.read,Af]
theorem An (d:Bool) (D:IntKind) (b c:Operand) (E:Array TypeId) (k:o.op= .call {callee:= .builtin (if d then .max else .min),args:= #[b,c],argTypes:=E}) (F:aQ b=true) (L:aQ c=true) (p:bK u a j) (r:Holds u f l) (h:G ⟨m,s⟩ (.lI d D b c) j f a7):bQ m s o a l u f a7:=by
 have x:=p.ak b F;have y:=p.ak c L;simp only[G]at h;split at h
 case h_2=>trivial
 rename_i T V W e P S;rw[P]at x;rw[S]at y;have z:=x.dQ;have C:=y.dQ;obtain⟨rfl,g⟩:=h;cases d
 .refine .same r ?_ (.v _ rfl) (by trivial);simp only[execOp,k,resolve,invoke,builtin,a5A,if_false,Sem.run_bind,Sem.run_pure,Result.andThen_ok,List.map_toArray,a4U,a6k,z,C,run_min_int2];grind
 .refine .same r ?_ (.v _ rfl) (by trivial);simp only[execOp,k,resolve,invoke,builtin,if_true,Sem.run_bind,Sem.run_pure,Result.andThen_ok,List.map_toArray,a4U,a6k,z,C,run_max_int2];grind
def Ao: ∀ {h:List R}{d:List UInt8},bytesOf h=some d->h=d.map al
 | [],d,b=>by simp only[bytesOf,a4H]at b;subst b;rfl
 |r::h,d,b=>by
  simp only[bytesOf]at b;split at b
  case h_2=>cases b
  rename_i x aP c k;obtain rfl:=a4v b;rw[Ao k,a4U];congr 1;unfold byteOf at c;split at c
  .rename_i p;split at c
   .rename_i y;obtain rfl:=a4v c;simp only[al];congr 2;have:p.toNat<256:=a8Z;simp[a6i this];omega
   .cases c
  .cases c
theorem ru (b:List UInt8):flat (b.map al)=b.map al:=by
 induction b with
 |nil=>rfl
 |cons c b ih=>simp only[flat,a4U,a4Y]at ih|-;rw[ih];rfl
theorem HN (d h:TypeId) (k:Operand) (w:o.op= .convert d h k) (r:TypeId) (E:m.underlying d=some (.slice r)) (F:m.underlying r=some (.int .u8)) (L:m.underlying h=some .string) (A:aQ k=true) (B:bK u a j) (W:Holds u f l) (z:G ⟨m,s⟩ (.pZ k) j f a7):bQ m s o a l u f a7:=by
 have C:=B.ak k A;simp only[G]at z;split at z
 case h_2=>trivial
 rename_i H e I;rw[I]at C;split at z
 case h_2=>trivial
 rename_i b K;have M:=Ao K;subst M;generalize P:a.eval k=x at C;have S: ∀x,(convert d h x).run m l= .ok (.string ⟨b.toArray⟩) l->a.eval k=x->bQ m s o a l u f a7:=λx N O=>
  .same W (by simp[execOp,w,O,N]) (.v _ rfl) z
 cases T:b with
 |nil=>
  subst T;cases C with
  |dg D c e bW Q=>
   refine S _ ?_ P;rw[run_convert_bytes_string l d h r D 0 c E F L];cases D with
   |none=>simp[Conv.bytesToString];rfl
   |some D=>have:=run_bytesToString (P:=m) l D 0 c [] a9f;rw[this];rfl
  |J y V len c g i H e X hlen Y k6 Z n q Q=>refine S _ ?_ P;subst hlen;rw[run_convert_bytes_string l d h r _ _ c E F L];have:=run_bytesToString (P:=m) l ⟨y,V,none⟩ 0 c [] a9f;simp only[a6k,a4G];rw[this];rfl
 |cons j9 k7=>
  obtain⟨y,V,c,g,i,k0,X,Y,k1,Z,n,q,_⟩:=C.vO (by rw[T];simp);have k2:g=1:=by have:=k1 (al j9) (by rw[T];simp);rw[<-this];rfl
  subst k2;refine S x ?_ P;rw[k0];have k8:=run_convert_bytes_arg l d r E F y V (b.map al).length c (b.map λy=>(y.toNat)) a9a (λp k3=>by
   have t:p<b.length:=by simpa using k3
   have k4:=W.ro _ _ _ (n p a8Z);rw[k4];have v:=q p (al b[p]) (by rw[ru];simp[t]);have k5:i p= .int .u8 (b[p].toNat):=by unfold al at v;exact v.dQ
   rw[k5];simp[t]) h L
  simp_all [strOfNums,a6b]
theorem vT {p:Type} (b:List p): ∀(d c:Nat),c<d*b.length->(List.replicate d b).flatten[c]? =b[c%b.length]?
 |0,c,h=>by simp at h
 |d+1,c,h=>by
  rw[a6K,a6l];by_cases k:c<b.length
  .rw[a6n k,a6i k]
  .rw[a7n a8Z,vT b d (c - b.length) (by rw[a8T]at h;omega)];grind[Nat.mod_eq_sub_mod]
theorem kS (b:List b0) (c:Nat):(List.replicate c b).flatten.length=c*b.length:=by simp
theorem HO (y:TypeId) (c k:Operand) (W:o.op= .makeSlice y c k) (p:TypeId) (e:m.underlying y=some (.slice p)) (b:TypeInfo) (g:m.info? p=some b) (d:Value) (i:b.zero=some d) (r:d.cells.size=b.size) (Z: ∀c∈d.cells.toList,c.oneCell'=true) (D:0<b.size)
  (n:aQ c=true) (q:aQ k=true) (E:bK u a j) (F:Holds u f l) (z:G ⟨m,s⟩ (.kg b.size b.bytes (d.cells.toList.map cT) c k) j f a7):bQ m s o a l u f a7:=by
 have L:=E.ak c n;have P:=E.ak k q;simp only[G]at z;split at z
 case h_2=>trivial
 rename_i t h v j9 w A;rw[w]at L;rw[A]at P;have B:=L.dQ;have H:=P.dQ;obtain⟨rfl,I,K,M,N⟩:=z;have O:=run_make l y p b d e g i t v h h I (a8w _) (by rw[Int.mul_comm];exact M) K;have Q:br u (madeCells d.cells (h.toNat*b.size)) (List.replicate h.toNat (d.cells.toList.map cT)).flatten:=by
  have S:(d.cells.toList.map cT).length=b.size:=by simp[r]
  refine br.dP.2 ⟨by simp[size_madeCells,r],λT c k0 x X=> ?_⟩;have V:T<h.toNat*b.size:=by grind[List.getElem?_eq_some_iff,kS]
  rw[vT _ _ _ (by rw[S];exact V),S,a4X]at X;rw[a6e]at x;have k1:T%b.size<d.cells.size:=by rw[r];exact a6A _ D
  simp only[madeCells,r]at x;rw[Array.getElem?_map]at x;simp only[a8I,V,if_true,a5x,a4H]at x;grind[Array.getElem?_eq_getElem,Option.some.injEq,aY.cT]
 refine .value (by simp[execOp,W,B,H,O]) (Step.new F _ p _ (λk2 C=> ?_) Q) (.an _ _ _ _ D (a5c _)) (N _ F.ec);obtain⟨k3,Y,C⟩:=a8f.1 C;obtain rfl:=(List.mem_replicate.1 Y).2;obtain⟨c,_,rfl⟩:=a4R.1 C;exact nK c
theorem HP (N k3:TypeId) (y z:Operand) (k4:o.op= .call {callee:= .builtin .copy,args:= #[y,z],argTypes:= #[N,k3]}) (r:TypeId) (k5:m.underlying N=some (.slice r)) (S:Nat) (O:(m.info? r).map (·.size)=some S)
  (k6:aQ y=true) (k7:aQ z=true) (Q:bK u a j) (i:Holds u f l) (C:G ⟨m,s⟩ (.mA S y z) j f a7):bQ m s o a l u f a7:=by
 have x:=Q.ak y k6;have E:=Q.ak z k7;simp only[G]at C;have a04: ∀(h p c F d:Nat) (b L:List R) (n:Own),aY u (a.eval z) (.J b n)->a.eval y= .slice (some ⟨h,p,none⟩) c F->d=S->(∀r∈b,r.cells.length=S)->f h=some (.cells L)->p+c*S<=L.length->
   a7 (.v (.int .i64 (min b.length c))) (f.set h (.cells (putAt L p (flat (b.take c)))))->bQ m s o a l u f a7:=by
  intro h p c F d b L n E t k8 P w a05 k9;subst k8;have l0: ∀r∈b.take c,r.cells.length=d:=λr V=>P r (a4K V);have a06:(flat (b.take c)).length=(min b.length c)*d:=by rw[db l0,a4z,Nat.min_comm]
  have a07:min b.length c*d<=c*d:=a4L _ a8Z;have l1: ∃D:Array Value,(Builtin.firstCells d (min b.length c) (a.eval z)).run m l= .ok D l/\br u D (flat (b.take c))/\(∀A∈flat (b.take c),A.one=true)/\(Builtin.lenOf (a.eval z)).run m l= .ok b.length l:=by
   obtain⟨B,W,l2,a08,l3⟩:=E.src i P m;have a09:=((fU c P).2).symm;have a10:=db P;generalize a11:a.eval z=l4 at E W;have l5:(Builtin.firstCells d (min b.length c) l4).run m l= .ok (B.take (min b.length c*d)).toArray l:=by
    cases E with
    |dg l6 X dm bW l7=>have:=a4B (by rw[l2];rfl);subst this;cases l6<;>simp[Builtin.firstCells,loadCells,loadCellsFrom]
    |J Y Z len X e q xs dm a13 l8 a14 a15 a16 hH a18 l7=>
     subst l8;have a19: ∀k v,B[k]? =some v->l.cell? ((⟨Y,Z,none⟩:Addr).add k)=some v:=by
      intro k v g;have a27:k<(flat b).length:=by grind
      have H:=W.cells;by_cases j9:b= []
      .subst j9;trivial
      have l9:e=d:=by
       match b,j9 with
       |a29::a30,_=>simp_all
      subst l9;have n0:=run_firstCells_some (P:=m) l e b.length ⟨Y,Z,none⟩ b.length X ((List.range (b.length*e)).map q) a9a (λk v x=>by
       have g:k<b.length*e:=by grind
       rw[a4X,a6L g]at x;obtain rfl:q k=v:=by simpa using x
       rw[hj];exact i.ro _ _ _ (hH k g))
      rw[n0]at H;simp only[Result.ok.injEq,and_true]at H;have n1:(List.range (b.length*e)).map q=B:=by simp_all
      rw[<-n1,a4X,a6L a8Z]at g;obtain rfl:q k=v:=by simpa using g
      rw[hj];exact i.ro _ _ _ (hH k a8Z)
     grind[run_firstCells_some,min,Nat.mul_le_mul_right]
   refine⟨_,l5,br.dP.2 ⟨?_,λk y a34 a36 a38=> ?_⟩,λA H=>l3 A (by grind),W.len⟩;simp_all;grind
  obtain⟨D,n2,I,k0,n3⟩:=l1;obtain⟨k1,T,n4,a42,n5⟩:=Step.store i w p (flat (b.take c)) D I k0 a8Z;refine .value ?_ n5 (.v _ rfl) k9;have k2:=run_storeCells_at m h p T D.toList 0 k1 l n4 (by have:=I.1;simp;omega) (I.nI k0);simp only[a6w]at k2;have n9:(storeCells ⟨h,p,none⟩ D.toList).run m l= .ok () (l.setRow h (dh k1 p D.toList)):=by rw[k2];rfl
  cases K:m.info? r with
  |none=>simp[K]at O
  |some ii=>
   have W:ii.size=d:=by simpa[K] using O
   have a00:Nat.min b.length c=min b.length c:=rfl;simp[execOp,k4,resolve,invoke,builtin,t,Builtin.copy_,run_underlying k5,n3,sizeOf,typeInfo,K,W,a00,n2,n9,goInt];omega
 split at C
 .rename_i h p c F d b n V M;rw[V]at x;rw[M]at E;obtain⟨rfl,P,C⟩:=C;split at C
  case h_2=>trivial
  rename_i L w;generalize t:a.eval y=a01 at x;cases x with
  |bA h p c F d a02 a03=>grind
 .rename_i h c F d b n V M;rw[V]at x;rw[M]at E;obtain⟨rfl,P,C⟩:=C;split at C
  case h_2=>trivial
  rename_i L w;generalize t:a.eval y=a01 at x;cases x with
  |an h c F d a02 a03=>grind
 .trivial
theorem HQ (C:Bool) (E:TypeId) (k:Operand) (g:TypeId) (S:o.op= .binOp (if C then .neq else .eql) E k (.const (.slice none 0 0)) g) (T:TypeId) (i:m.underlying E=some (.slice T)) (n:aQ k=true) (q:bK u a j) (c:Holds u f l)
  (d:G ⟨m,s⟩ (.mB C k) j f a7):bQ m s o a l u f a7:=by
 have r:=q.ak k n;have V: ∀v,a.eval (.const v)=v:=λ_=>rfl;have F: ∀b x z,a.eval k= .slice b x z->(execOp a.eval o).run m l= .ok (.value (.bool (xor C b.isNone))) l:=λb x z p=>by
  have W:=run_equalIn_slice_nil l 9999 E T b x z i;cases C
  .simp[execOp,S,p,V,eqGuard,binOp,Op.equal,Op.maxDepth,W]
  .simp[execOp,S,p,V,eqGuard,binOp,Op.equal,Op.maxDepth,W]
 simp only[G]at d;split at d
 case h_3=>trivial
 case h_2=>
  rename_i t x y e L;rw[L]at r;generalize p:a.eval k=w at r;cases r with
  |an t x y e I A=>exact .same c (F _ x y p) (.v _ rfl) (by simpa using d)
 rename_i B D L;rw[L]at r;generalize p:a.eval k=w at r;cases r with
 |dg b y D bW P=>
  have h:=F b 0 y p;cases D with
  |nil=>simp only[Own.lE]at P;subst P;exact .same c h (.v _ rfl) (by simpa using d)
  |buf H z=>trivial
  |any=>cases b with
   |none=>exact .same c h (.v _ rfl) (by simp_all)
   |some b=>exact .same c h (.v _ rfl) (by simpa using d.2)
  |zero=>cases b with
   |none=>exact .same c h (.v _ rfl) (by simp_all)
   |some b=>exact .same c h (.v _ rfl) (by simpa using d.2)
 |J K off len y e M B D hk hlen A N O hH Q P=>
  have h:=F _ len y p;cases D with
  |nil=>trivial
  |buf H z=>exact .same c h (.v _ rfl) (by simpa using d)
  |any=>exact .same c h (.v _ rfl) (by simpa using d.2)
  |zero=>trivial
theorem HR (k E:TypeId) (y:Operand) (z:o.op= .convert k E y) (c:TypeId) (F:m.underlying k=some .string) (W:m.underlying E=some (.slice c)) (e:m.underlying c=some (.int .u8)) (g:aQ y=true) (i:bK u a j) (C:Holds u f l) (L:G ⟨m,s⟩ (.q0 y) j f a7):bQ m s o a l u f a7:=by
 have p:=i.ak y g;simp only[G]at L;split at L
 case h_2=>trivial
 rename_i b P;rw[P]at p;have n:=p.dQ;have q:=run_bytes_of_string l k E c b F W e;have t:(execOp a.eval o).run m l= .ok (.value (.slice (some ⟨l.heap.size,0,none⟩) b.size (grownCap l b.size 0 c))) (l.drew.alloc (.cells (bytesRow b (grownCap l b.size 0 c)) c ((bytesRow b (grownCap l b.size 0 c)).size,(bytesRow b (grownCap l b.size 0 c)).size+1))):=by simp[execOp,z,n,q]
 have w:=grownCap_ge l b.size 0 c;generalize grownCap l b.size 0 c=S at*;have A:b.size<=(bytesRow b S).size:=by
  have:b.data.size=b.size:=rfl;simp[bytesRow]
  try omega
 have B: ∀d (h:d<b.size),(bytesRow b S)[d]? =some (.int .u8 ((b.data[d]'h).toNat)):=λd h=>by
  simp_all [bytesRow,a7o]
 generalize bytesRow b S=r at*;have k:=Step.write (h7:=l.drew.alloc (.cells r c (r.size,r.size+1))) C.drew l.heap.size b.size r c f rfl rfl rfl a9a (heap_alloc_new l.drew _) (λD _ T=>pQ l.drew _ D T) (.inl rfl)
   A (λo v p=>by rw[C.my]at p;cases p) (λM o N F=>F)
   (λo z=>by rw[C.ec]at z;cases z)
 refine .value t ((Step.drew C).trans k) ?_ L;by_cases H:b.size=0
 .have:b.data.toList= []:=by simp_all
  rw[H,this];exact .dg _ _ _ (λI=>by cases I) trivial
 .refine .J _ _ _ _ 1 (λd=>r.getD d undef) _ _ a8Z ?_ w (λc P=> ?_) (λO V=> ?_) (λd h=> ?_) (λd Q x=> ?_) trivial;simp
  .obtain⟨D,_,rfl⟩:=a4R.1 P;rfl
  .rw[ru]at V;obtain⟨D,_,rfl⟩:=a4R.1 V;rfl
  simp_all [a4W,bl.oL]
  .rw[ru,a4X]at x;have h:d<b.size:=by rw[a7c]at x;obtain⟨D,T,_⟩:=x;have:=(a4E.1 T).1;trivial
   have K:d<b.data.size:=h;rw[a6e,a6E K,a5x,a4H]at x;subst x;rw[a5t,B d h];exact .v _ rfl
end
section
variable  {o:Oper}{a:Act}   
def bK.map (p:bK u a j) {b:Array Operand} (r: ∀d∈b.toList,aQ d=true):br u (b.map a.eval) (b.toList.map (Go.bx.ak j)):=by
 refine br.dP.2 ⟨a9a,λx d y c h=> ?_⟩;rw[a6V,a4X]at c;rw[a4X]at h;cases k:b.toList[x]? with
 |none=>simp[k]at c
 |some op=>
  rw[k]at c h;obtain rfl:a.eval op=d:=by simpa using c
  obtain rfl:Go.bx.ak j op=y:=by simpa using h
  exact p.ak op (r op (a4D k))
theorem br.append {b:Array Value} (c:br u j8 g) (d:br u b A):br u (j8++b) (g++A):=by rw[br.dP]at c d|-;grind
theorem HS (b:FuncId) (first c:Array Operand) (r:o.op= .makeFunc (.func b) first c) (x: ∀d∈first.toList,aQ d=true) (y: ∀d∈c.toList,aQ d=true) (h:bK u a j) (z:Holds u f l)
  (C:G ⟨m,s⟩ (.bG b first.toList c.toList) j f a7):bQ m s o a l u f a7:=by
 have k:=h.map x;have p:=h.map y;refine .same z ?_ (.bG b _ _ _ _ k.1 k.2 p.1 p.2) C;simp only[execOp,r,Instr.makeFunc,Sem.run_bind,Sem.run_pure,Result.andThen_ok]
theorem HT (b:Operand) (args:Array Operand) (y:Array TypeId) (z:o.op= .call {callee:= .value b,args,argTypes:=y}) (C:aQ b=true)
  (D: ∀b∈args.toList,aQ b=true) (p:bK u a j) (r:Holds u f l) (c:G ⟨m,s⟩ (.iO b args.toList) j f a7):bQ m s o a l u f a7:=by
 intro w A;have h:=p.ak b C;simp only[G]at c;split at c
 case h_2=>trivial
 rename_i k E F L;obtain⟨P,c⟩:=c;obtain⟨d,S,T,V⟩: ∃d,m.funcs[k]? =some d/\d.body.isSome/\d.name≠ "runtime.NumGoroutine" :=by unfold gf at P;grind
 rw[L]at h;generalize W:a.eval b=B at h;cases h with
 |bG k ws e E F hw g i n=>
  have q:=br.append (br.append ⟨hw,g⟩ (p.map D)) ⟨i,n⟩;have t:=c _ l u q r;have v:(execOp a.eval o).run m l= .ok (.enter k (ws++args.map a.eval++e)) l:=by
   cases x:d.body with
   |none=>simp[x]at T
   |some H=>simp[execOp,z,resolve,W,Deferred.ofValue,invoke,callFunc,S,V,x]
  unfold Oper.wp;rw[v];exact t.mono λI K r=>by
   grind
def HU (b:TypeId) (c:Operand) (h:o.op= .makeInterface b c) (d:TypeDesc) (k:m.underlying b=some d) (p: ∀r,d≠ .interface r) (x:aQ c=true) (y:bK u a j) (z:Holds u f l) (C:G ⟨m,s⟩ (.q1 b c) j f a7):bQ m s o a l u f a7:=by
 refine .same z ?_ (.iface b _ _ (y.ak c x)) C;cases d<;>first
  |exact absurd rfl (p _)
  |simp[execOp,h,Instr.makeInterface,run_underlying k]
def HV (b:Operand) (r:o.op= .panic b) (x:aQ b=true) (y:bK u a j) (z:Holds u f l) (d:G ⟨m,s⟩ (.mC b) j f a7):bQ m s o a l u f a7:=by
 intro P C;have c:=y.ak b x;simp only[G]at d;split at d
 case h_2=>trivial
 rename_i h D E;rw[E]at c;have k:=c;generalize F:a.eval b=p at c k;cases c with
 |iface h p D S=>
  have L:(execOp a.eval o).run m l= .halt (.panic (.iface h p)) l:=by simp[execOp,r,F,run_panic_iface]
  unfold Oper.wp;rw[L];exact C _ _ _ _ _ (.refl z) k d
def HW (d:TypeId) (b:Operand) (p:o.op= .range d b) (r:m.underlying d=some .string) (x:aQ b=true) (y:bK u a j) (h:Holds u f l) (c:G ⟨m,s⟩ (.ki b) j f a7):bQ m s o a l u f a7:=by
 have k:=y.ak b x;simp only[G]at c;split at c
 case h_2=>trivial
 rename_i z C;rw[C]at k;have D:=k.dQ;refine .value ?_ (Step.A6 h _ (.it z 0) (heap_alloc_new l _)) (.ptr _ _) (c _ h.ec);simp[execOp,p,D,Instr.range,run_underlying r]
theorem HX (x:Operand) (D:o.op= .next x true) (P:aQ x=true) (S:bK u a j) (z:Holds u f l) (h:G ⟨m,s⟩ (.mD x) j f a7):bQ m s o a l u f a7:=by
 have E:=S.ak x P;simp only[G]at h;split at h
 case h_2=>trivial
 rename_i k i T;rw[T]at E;obtain⟨rfl,h⟩:=h;have F:=E.kR;split at h
 case h_2=>trivial
 rename_i d c L;have p:l.heap[k]? =some (.stringIter d c):=z.dO k _ L;have n:=(a5M.1 p).1;by_cases y:c<d.size
 .rw[if_pos y]at h;have V:=Step.A7 z (c:= .stringIter d (c+(Utf8.decode d c).2)) (Y:= .it d (c+(Utf8.decode d c).2)) (by simp[L]) p (λq t j W=>by cases W) (by
   show(l.heap.setIfInBounds k _)[k]? = _;simp_all)
  refine .value (v:= .tuple #[.bool true,.int .i64 c,.int .i32 (Utf8.decode d c).1]) ?_ V (.aK _ _ rfl (λr e b=> ?_)) h
  .have C:(getObj k).run m l= .ok (.stringIter d c) l:=by simp[getObj,Sem.run,p]
   have g:(setObj k (.stringIter d (c+(Utf8.decode d c).2))).run m l= .ok () {l with heap:=l.heap.setIfInBounds k (.stringIter d (c+(Utf8.decode d c).2))}:=by simp[setObj,Sem.run,p]
   simp[execOp,D,F,Instr.next,C,y,g,goInt]
  .match r,b with
   |0,b=>simp at b;subst b;exact .v _ rfl
   |1,b=>simp at b;subst b;exact .v _ rfl
   |2,b=>simp at b;subst b;exact .v _ rfl
   |r+3,b=>simp at b
 .rw[if_neg y]at h;refine .same z (v:= .tuple #[.bool false]) ?_ (.aK _ _ rfl (λr e b=> ?_)) h
  .have C:(getObj k).run m l= .ok (.stringIter d c) l:=by simp[getObj,Sem.run,p]
   simp[execOp,D,F,Instr.next,C,y]
  .match r,b with
   |0,b=>simp at b;subst b;exact .v _ rfl
   |r+1,b=>simp at b
end
section
def rv (b:Program) (p:Nat) (c:TypeId) (d:List c8):Prop:=
 ∀(r:Bool) (x:Nat) (a:World) (h:Array Value) (k:Nat),fC d ((h.toList.drop k).take d.length)->
  ∃o,(part c h k).run b a= .ok o a/\(Instr.checkKey r (x+p) c o).run b a= .ok () a
def vU {d:c8}{h:TypeDesc} (k:m.underlying b2=some h) (o:h.isRow=false) (p: ∀c r a b,d.fit a->(Instr.checkKey c (r+1) b2 a).run m b= .ok () b):rv m (e+1) b2 [d]:=by intro c x b D E y;obtain⟨a,z,C,F⟩:=one_cell y;exact⟨a,nO k o _ _ _ z b,p c (x+e) a b C⟩
theorem HY (a:m.underlying b2=some (.int e2)):rv m (e+1) b2 [.int e2]:=
 vU a rfl λb c d h k=>by
  simp_all [Instr.checkKey,run_underlying]
theorem HZ (a:m.underlying b2=some .bool):rv m (e+1) b2 [.bool]:=
 vU a rfl λb c d h k=>by
  simp_all [Instr.checkKey,run_underlying]
theorem I0 (a:m.underlying b2=some .string):rv m (e+1) b2 [.str]:=
 vU a rfl λb c d h k=>by
  simp_all [Instr.checkKey,run_underlying]
theorem vV: ∀(d:Nat) (h:TypeId) (k:List c8),flatK m d h=some k->m.cellsOf h=k.length->(m.info? h).isSome->rv m d h k
 |0,h,k,a,_,_=>by trivial
 |d+1,h,k,a,L,j=>by
  simp only[flatK]at a;cases hu:m.underlying h with
  |none=>simp[hu]at a
  |some desc=>
   simp only[hu]at a;cases desc<;>simp only[]at a<;>first
    |(cases a;done)
    |skip
   case int N=>obtain rfl:=a4v a;exact HY hu
   case bool=>obtain rfl:=a4v a;exact HZ hu
   case string=>obtain rfl:=a4v a;exact I0 hu
   case array o t=>
    split at a
    case h_2=>cases a
    rename_i b T;split at a
    case isFalse=>cases a
    rename_i p;obtain rfl:=a4v a;have ih:=vV d t b T p.1 p.2;obtain⟨x,C⟩:=a5j.1 j;obtain⟨u,v⟩:=a5j.1 p.2;have O:u.size=b.length:=by simpa[Program.cellsOf,v] using p.1
    have D:x.size=(List.replicate o b).flatten.length:=by simpa[Program.cellsOf,C] using L
    intro V y E z c F;refine⟨_,lO hu rfl C z c E,?_⟩;rw[show y+(d+1)=(y+d)+1 by omega,Instr.checkKey];simp only[Sem.run_bind,run_underlying hu,Result.andThen_ok];simp only[Std.Legacy.Range.forIn_eq_forIn_range',Std.Legacy.Range.size,Nat.sub_zero,Nat.add_one_sub_one,Nat.div_one];have r:fC (List.replicate o b).flatten (((z.extract c (c+x.size)).toList.drop (0*b.length)).take (List.replicate o b).flatten.length):=by rw[a7O,a6C,tp,D,a5L,a6H];exact F
    clear F D L a hu;generalize z.extract c (c+x.size)=W at r|-;generalize (0)=P at r|-
    induction o generalizing P with
    |zero=>simp
    |succ o Q=>simp only[a6K,a6l]at r;obtain⟨G,S⟩:=oP r;have e:min b.length (b++(List.replicate o b).flatten).length=b.length:=a9a;have f:(b++(List.replicate o b).flatten).length - b.length=(List.replicate o b).flatten.length:=a9a;rw[a5L,e]at G;rw[a5P,a5l,f,show P*b.length+b.length=(P+1)*b.length by grind]at S;obtain⟨w,g,l⟩:=ih V y E W (P*b.length) G;simp_all [List.range'_succ,run_sizeOf]
   case struct A=>
    split at a;trivial;obtain⟨x,C⟩:=a5j.1 j;have D:x.size=k.length:=by simpa[Program.cellsOf,C] using L
    intro V y E z c F;refine⟨_,lO hu rfl C z c E,?_⟩;rw[show y+(d+1)=(y+d)+1 by omega,Instr.checkKey];simp only[Sem.run_bind,run_underlying hu,Result.andThen_ok];rw[<-Array.forIn_toList];have r:fC k (((z.extract c (c+x.size)).toList.drop 0).take k.length):=by rw[a6C,tp,D,a5L,a6H];exact F
    have ih:=λh b B H I=>vV d h b B H I;clear F D L hu;generalize z.extract c (c+x.size)=W at r|-;generalize (0)=n at r a;generalize A.toList=q at a|-
    induction q generalizing n k with
    |nil=>simp
    |cons X q K=>
     simp only[q3]at a;split at a
     case isFalse=>cases a
     rename_i s;split at a
     case h_2=>cases a
     rename_i b i T M;split at a
     case isFalse=>cases a
     rename_i p;obtain rfl:=a4v a;obtain⟨G,S⟩:=oP r;have e:min b.length (b++i).length=b.length:=a9a;have f:(b++i).length - b.length=i.length:=a9a;rw[a5L,e]at G;rw[a5P,a5l,f,<-p.1]at S;obtain⟨w,g,l⟩:=ih _ _ T p.1 p.2 V y E W n G;rw[<-s.1]at g;simp only[List.forIn_cons,Sem.run_bind,s.2,ne_eq,not_false_eq_true,if_true,Result.andThen_ok,g,l,Sem.run_pure];exact K _ _ S M
def I1 {a:c8} (b:a.fit e5) (c:Nat):Instr.sameBits c e5 e5=true:=by
 cases a<;>cases e5<;>first
  |exact b.elim
  |(simp[Instr.sameBits];done)
  |(simp only[Instr.sameBits];exact(Go.MapKept.bytes_beq _ _).2 rfl)
theorem I2: ∀ {b:List c8},fC b j8.toList->Instr.sameBits (e+1) (.agg j8) (.agg j8)=true:=by
 intro b d;simp only[Instr.sameBits,beq_self_eq_true,a5U];rw[a4O];have: ∀(b:List c8) (a:List Value),fC b a-> ∀h∈a.zip a,Instr.sameBits e h.1 h.2=true:=by
  intro b
  induction b with
  |nil=>intro a d h c;cases a with
   |nil=>cases c
   |cons _ _=>exact d.elim
  |cons k b ih=>intro a d h c;cases a with
   |nil=>cases c
   |cons o a=>
    rcases a4T.1 c with rfl|c
    .exact I1 d.1 e
    .exact ih a d.2 h c
 grind
def fr (a:bl):List MapEntry->List (R×R×Nat)->Prop
 | [],[]=>True
 |b::es,c::us=>rk a b c/\fr a es us
 | _,_=>False
def nJ.list {o:bl}: ∀ {d:List MapEntry}{h:List (R×R×Nat)},d.length=h.length->(∀(k:Nat) (a:MapEntry) (b:R×R×Nat),d[k]? =some a->h[k]? =some b->rk o a b)->fr o d h
 | [],[],_,_=>trivial
 |a::d,b::h,c,p=>⟨p 0 a b rfl rfl,nJ.list (by simpa using c) λk a b r x=>p (k+1) a b (by trivial) (by trivial)⟩
 | [],_:: _,c,_=>by simp at c
 | _:: _,[],c,_=>by simp at c
theorem Ap {C:bl}{x:Nat}{h:TypeId}{k:List (Nat×c8)} (i:flatK m x h=some (jv k)) (N:x<=10000) (T:m.cellsOf h=(jv k).length) (V:(m.info? h).isSome) {j:TypeDesc} (L:m.underlying h=some j) (l:j.isRow=true)
  {W:Value}{o:List R} (O:aY C W (.agg o)) (n:dA k o) (y:World): ∀(D:List MapEntry) (E:List (R×R×Nat)) (c:Nat),fr C D E->(∀F∈E,∃z,F.1= .agg z/\dA k z)->
  ∃d,(Instr.findAsking h W D c).run m y= .ok d y/\(match dC E (.agg o) c with
   |none=>d=none
   |some (e,v)=> ∃p,d=some (e,p.val)/\c<=e/\D[e - c]? =some p/\p.key=W/\aY C p.val v)
 | [],[],c,_,_=>⟨none,by rfl,rfl⟩
 | [],_:: _,_,a,_=>a.elim
 | _:: _,[],_,a,_=>a.elim
 |p::D,F::E,c,a,q=>by
  obtain⟨⟨f,l2,l3⟩,Q⟩:=a;obtain⟨z,s,X⟩:=q F a9a;rw[s]at f;cases O with
  |agg b _ Y t u=>
   generalize w:p.key=l4 at f;cases f with
   |agg ws _ l5 Z j9=>
    have A:br C b o:=⟨t,u⟩;have B:br C ws z:=⟨Z,j9⟩;obtain⟨k0,k1⟩:=oQ _ o b.toList n (br.dP.1 A).1 (br.dP.1 A).2;obtain⟨k2,k3⟩:=oQ _ z ws.toList X (br.dP.1 B).1 (br.dP.1 B).2;have k4:b.size=(jv k).length:=by have:=nN k0;trivial
    have k5:ws.size=(jv k).length:=by have:=nN k2;trivial
    obtain⟨g,H⟩:=a5j.1 V;have I:g.size=(jv k).length:=by simpa[Program.cellsOf,H] using T
    obtain⟨l6,l7,d,P,S,K,l8⟩:=tq x h _ i T V (10000 - x) y b ws 0 (by grind) (by grind);rw[lO L l H]at P S;have k6:b.extract 0 (0+g.size)=b:=by rw[a4W,I,<-k4];simp
    have k7:ws.extract 0 (0+g.size)=ws:=by rw[a4W,I,<-k5];simp
    rw[k6]at P;rw[k7]at S;simp only[Result.ok.injEq,and_true]at P S;subst P;subst S;rw[show 10000 - x+x=10000 by omega]at K;have k8:(b=ws)↔d=true:=by grind[List.take_of_length_le,Array.toList_inj]
    have k9:peq (.agg o) (.agg z)=d:=by
     rw[a6Z,rm,<-k8,k1,k3];constructor
     .intro a;have l9:=R.agg.inj a;have: ∀G r:List Value,G.map R.v=r.map R.v->G=r:=λG r a=>by
       induction G generalizing r with
       |nil=>cases r with
        |nil=>rfl
        |cons _ _=>cases a
       |cons n0 G ih=>cases r with
        |nil=>cases a
        |cons n1 r=>grind
      grind
     .rintro rfl;rfl
    obtain⟨l0,l1,n2⟩:=Ap i N T V L l (.agg b o Y t u) n y D E (c+1) Q λF L=>q F (by simp[L]);have M:(Op.equal h (.agg b) (.agg ws)).run m y= .ok d y:=K;simp only[dC,s,k9];cases d with
    |true=>refine⟨some (c,p.val),by simp[Instr.findAsking,w,M],?_⟩;grind
    |false=>refine⟨l0,by simp[Instr.findAsking,w,M,l1],?_⟩;grind
end
structure mL (a:Program) (b:TypeId) (rs:List (Nat×c8)):Prop where
 flat: ∃d,d<=10000/\flatK a d b=some (jv rs)
 size:a.cellsOf b=(jv rs).length
 info:(a.info? b).isSome
 row: ∃c,a.underlying b=some c/\c.isRow=true/\(match a.underlying b with|some (.array _ _)|some (.struct _)=>true| _=>false)=true
variable{j4:List (Nat × c8)}
section
theorem mL.check (a:mL m b2 j4) (r:aY u e5 (.agg g)) (x:dA j4 g) (d:Bool) (c:World):(Instr.checkKey d 10000 b2 e5).run m c= .ok () c:=by
 obtain⟨h,S,y⟩:=a.flat;obtain⟨T,z,C,_⟩:=a.row;cases r with
 |agg b _ V D E=>
  have k:br u b g:=⟨D,E⟩;obtain⟨F,W⟩:=oQ _ g b.toList x (br.dP.1 k).1 (br.dP.1 k).2;have G:b.size=(jv j4).length:=by have:=nN F;trivial
  obtain⟨o,p⟩:=a5j.1 a.info;have L:o.size=(jv j4).length:=by simpa[Program.cellsOf,p] using a.size
  obtain⟨e,P,f⟩:=vV h b2 _ y a.size a.info d (10000 - h) c b 0 (by grind);rw[lO z C p]at P;have i:b.extract 0 (0+o.size)=b:=by rw[a4W,L,<-G];simp
  grind
theorem mL.find (a:mL m b2 j4) (r:aY u e5 (.agg g)) (x:dA j4 g) (k:World) {b:List MapEntry}{c:List (R×R×Nat)} (y:fr u b c) (z: ∀C∈c,∃o,C.1= .agg o/\dA j4 o):
  ∃d,(Instr.findKey b2 e5 b).run m k= .ok d k/\(match dC c (.agg g) 0 with
   |none=>d=none
   |some (p,v)=> ∃h,d=some (p,h.val)/\b[p]? =some h/\h.key=e5/\aY u h.val v):=by
 obtain⟨L,D,E⟩:=a.flat;obtain⟨P,F,G,S⟩:=a.row;obtain⟨d,T,V⟩:=Ap E D a.size a.info F G r x k b c 0 y z;grind[run_findKey_eq,dC,id]
def I3 {k o:TypeId} (p:m.underlying k=some (.map o b2)) (r:mL m o j4) {x:TypeInfo} (L:m.info? b2=some x) (P:x.zero=some e5) {y:Value} (z:aY u y (.agg g)) (C:dA j4 g)
  {b:Array MapEntry} (D:l.heap[e]? =some (.map b i)) {a:List (R×R×Nat)} (S:fr u b.toList a) (T: ∀V∈a,∃E,V.1= .agg E/\dA j4 E) (c:Bool):
  ∃d,(Instr.lookup k (.map (some e)) y c).run m l= .ok d l/\(match dC a (.agg g) 0 with
   |none=>d=if c then .tuple #[e5,.bool false]else e5
   |some (_,v)=> ∃h,aY u h v/\d=if c then .tuple #[h,.bool true]else h):=by
 obtain⟨s,F,W⟩:=r.find z C l S T;have G:=r.check z C b.isEmpty l;have f:(zeroValue b2).run m l= .ok e5 l:=by simp[zeroValue,typeInfo,L,P]
 revert W;cases dC a (.agg g) 0 with
 |none=>rintro rfl;exact⟨_,by simp[Instr.lookup,run_underlying p,MapKept.run_getObj_map D,G,F,f],rfl⟩
 |some j=>obtain⟨t,v⟩:=j;rintro⟨n,rfl,_,_,q⟩;exact⟨_,by simp[Instr.lookup,run_underlying p,MapKept.run_getObj_map D,G,F],n.val,q,rfl⟩
def fr.length: ∀ {a:List MapEntry}{b:List (R×R×Nat)},fr u a b->a.length=b.length
 | [],[],_=>rfl
 | _:: _,_:: _,c=>by simp[fr.length c.2]
theorem fr.set: ∀ {c:List MapEntry}{d:List (R×R×Nat)}{h:Nat}{b:MapEntry}{k o:Value}{v:R},fr u c d->c[h]? =some b->b.key=k->aY u o v->
  fr u (c.modify h λb=> {b with key:=k,val:=o}) (d.modify h λp=>(p.1,v,p.2.2))
 | [],_,_,_,_,_,_,_,a,_,_=>by simp at a
 | _:: _,[],_,_,_,_,_,a,_,_,_=>a.elim
 |x::c,p::d,0,b,k,o,v,a,he,hk,r=>by
  simp at he;subst he;simp only[a8B];exact⟨⟨by rw[<-hk];exact a.1.1,r,a.1.2.2⟩,a.2⟩
 |x::c,p::d,h+1,b,k,o,v,a,he,hk,r=>by
  simp only[a8C];exact⟨a.1,fr.set a.2 (by trivial) hk r⟩
def fr.push: ∀ {b:List MapEntry}{c:List (R×R×Nat)}{d:MapEntry}{h:R×R×Nat},fr u b c->rk u d h->fr u (b++ [d]) (c++ [h])
 | [],[],_,_,_,a=>⟨a,trivial⟩
 | _:: _,_:: _,_,_,a,k=>⟨a.1,fr.push a.2 k⟩
theorem I4 {p S:TypeId} (r:m.underlying b2=some (.map p S)) (x:mL m p j4) {c:Value}{v:R} (d:aY u e5 (.agg g)) (k:dA j4 g) (y:aY u c v)
  {a:Array MapEntry} (h:l.heap[i]? =some (.map a e)) {b:List (R×R×Nat)} (o:fr u a.toList b) (T: ∀V∈b,∃z,V.1= .agg z/\dA j4 z):
  ∃C:Array MapEntry,(Instr.mapUpdate b2 (.map (some i)) e5 c).run m l= .ok () {l with heap:=l.heap.setIfInBounds i (.map C (kN b (.agg g) v e).2)}/\fr u C.toList (kN b (.agg g) v e).1:=by
 obtain⟨I,D,W⟩:=x.find d k l o T;have E:=x.check d k false l;unfold kN;revert W;cases dC b (.agg g) 0 with
 |none=>
  rintro rfl;refine⟨a.push {key:=e5,val:=c,born:=e},?_,?_⟩
  .simp[Instr.mapUpdate,run_underlying r,MapKept.run_getObj_map h,E,D,MapKept.run_setObj_map _ h]
  .simp only[Array.toList_push];exact o.push ⟨d,y,rfl⟩
 |some f=>
  obtain⟨F,K⟩:=f;rintro⟨G,rfl,j,n,M⟩;have q:Instr.sameBits 10000 e5 e5=true:=by
   cases d with
   |agg L _ N s t=>have P:br u L g:=⟨s,t⟩;obtain⟨w,O⟩:=oQ _ g L.toList k (br.dP.1 P).1 (br.dP.1 P).2;have A:(10000)=9999+1:=rfl;rw[A];exact I2 w
  have B:(Instr.keyThatStays e5 e5).run m l= .ok e5 l:=by simp[Instr.keyThatStays,q]
  have H:((a[F]?).map (·.key)).getD e5=e5:=by simp_all
  refine⟨a.modify F λG=> {G with key:=e5,val:=c},?_,?_⟩
  .simp only[Instr.mapUpdate,Sem.run_bind,run_underlying r,Result.andThen_ok,MapKept.run_getObj_map h,E,D,H,B,MapKept.run_setObj_map _ h]
  .rw[Array.toList_modify];exact o.set j n y
end
section
variable  {o:Oper}{a:Act}   
def aY.Aq (b:aY u e5 (.gQ e)):e5= .map (some e):=by cases b;rfl
def I5 (c:TypeId) (d:o.op= .makeMap c none) (b:Holds u f l) (h:G ⟨m,s⟩ .kj j f a7):bQ m s o a l u f a7:=by refine .value ?_ (Step.A6 b _ (.mp [] 0) ⟨#[],heap_alloc_new l _,rfl,λp r x k=>by simp at k⟩) (.gQ _) (h _ b.ec);simp[execOp,d,Instr.makeMap]
def I6 (z C D:TypeId) (p r:Operand) (h:Bool) (e:o.op= .lookup z p r h) (g:m.underlying z=some (.map C D)) (i:mL m C j4) {E:TypeInfo} (q:m.info? D=some E) (t:E.zero=some e5) (F:aY u e5 n)
  (w:aQ p=true) (A:aQ r=true) (L:bK u a j) (x:Holds u f l) (c:G ⟨m,s⟩ (.lK h j4 n p r) j f a7):bQ m s o a l u f a7:=by
 have P:=L.ak p w;have S:=L.ak r A;simp only[G]at c;split at c
 case h_2=>trivial
 rename_i B H I K;rw[I]at P;rw[K]at S;have M:=P.Aq;split at c
 case h_2=>trivial
 rename_i T k5 N;obtain⟨O,Q,c⟩:=c;obtain⟨X,Y,k6,Z⟩:=x.dO B _ N;have j9:fr u X.toList T:=nJ.list (by trivial) λd k0 y k1 k2=>Z d k0 y (by simpa using k1) k2;obtain⟨v,k3,k⟩:=I3 g i q t S O Y j9 Q h;have V:(execOp a.eval o).run m l= .ok (.value v) l:=by simp[execOp,e,M,k3]
 revert c k;cases dC T (.agg H) 0 with
 |none=>
  intro c k;subst k;refine .same x V ?_ c;cases h with
  |false=>exact F
  |true=>exact .aK _ _ rfl (λd y b=>by
    match d,b with
    |0,b=>simp at b;subst b;exact F
    |1,b=>simp at b;subst b;exact .v _ rfl
    |d+2,b=>simp at b)
 |some k4=>
  obtain⟨d,k7⟩:=k4;intro c k;obtain⟨k8,W,rfl⟩:=k;refine .same x V ?_ c;cases h with
  |false=>exact W
  |true=>exact .aK _ _ rfl (λd y b=>by
    match d,b with
    |0,b=>simp at b;subst b;exact W
    |1,b=>simp at b;subst b;exact .v _ rfl
    |d+2,b=>simp at b)
theorem fr.ok {k:bl}: ∀ {p:List MapEntry}{r:List (R×R×Nat)},fr k p r-> ∀(d:Nat) (b:MapEntry) (c:R×R×Nat),p[d]? =some b->r[d]? =some c->rk k b c
 | _:: _,_:: _,h,0,b,c,he,hu=>by simp at he hu;subst he;subst hu;exact h.1
 | _:: _,_:: _,h,d+1,b,c,he,hu=>fr.ok h.2 d b c (by trivial) (by trivial)
 | [],_,_,_,_,_,he,_=>by simp at he
theorem I7 (r P i:TypeId) (c d v:Operand) (h:o.op= .mapUpdate r c d v\/o.op= .insert r c d v) (n:m.underlying r=some (.map P i)) (q:mL m P j4)
  (t:aQ c=true) (w:aQ d=true) (A:aQ v=true) (x:bK u a j) (S:Holds u f l) (b:G ⟨m,s⟩ (.lL j4 c d v) j f a7):bQ m s o a l u f a7:=by
 have T:=x.ak c t;have V:=x.ak d w;have B:=x.ak v A;simp only[G]at b;split at b
 case h_2=>trivial
 rename_i H y I K;rw[I]at T;rw[K]at V;have M:=T.Aq;split at b
 case h_2=>trivial
 rename_i k z W;obtain⟨N,O,b⟩:=b;obtain⟨Q,C,k1,X⟩:=S.dO H _ W;have Y:fr u Q.toList k:=nJ.list (by trivial) λD p E F L=>X D p E (by simpa using F) L;obtain⟨e,Z,g⟩:=I4 n q V N B C Y O;have k2:=(a5M.1 C).1;have j9:=Step.A7 S (c:= .map e (kN k (.agg y) (Go.bx.ak j v) z).2) (Y:= .mp (kN k (.agg y) (Go.bx.ak j v) z).1 (kN k (.agg y) (Go.bx.ak j v) z).2) (by simp[W]) C (λk3 p j k0=>by cases k0)
  ⟨e,by
   simp_all,by simpa using g.length,λD p E F L=>g.ok D p E (by simpa using F) L⟩
 refine .skip ?_ j9 b;rcases h with h|h<;>simp[execOp,h,M,Z]
end
end Go.bx
