import Derived.WalkKit
import Derived.Deep.MidRow
import Derived.ChangeKeysEq
import Derived.Laws.Cover3
import Derived.WalkSmall
import Derived.LaidEql
import Derived.Lib.Builder
import Derived.Lib.UnsafeStr
import Derived.MapKept
import Derived.WideKeyRuns
set_option linter.all false
def a9p{p:Prop}(h:p:=by omega):p:=h
def a9q{p:Prop}(h:p:=by simp):p:=h
def a9r{p:Prop}(h:p:=by simp;omega):p:=h
def a9s{p:Prop}(h:p:=by assumption):p:=h
def a9t{p:Prop}(h:p:=by decide):p:=h
def a9u{p:Prop}(h:p:=by kernel_rfl):p:=h
def a4F:=@And.intro
def a4G:=@Option.some.inj
def a4H:=@List.getElem?_eq_getElem
def a4I:=@List.take_of_length_le
def a4J:=@List.length_append
def a4K:=@Bool.and_eq_true
def a4L:=@List.length_take
def a4M:=@List.length_cons
def a4N:=@List.eq_nil_of_length_eq_zero
def a4O:=@List.mem_of_getElem?
def a4P:=@List.getElem?_eq_some_iff
def a4Q:=@Ne.symm
def a4R:=@List.length_nil
def a4S:=@Option.some.injEq
def a4T:=@List.length_map
def a4U:=@List.append_assoc
def a4V:=@List.length_drop
def a4W:=@List.all_eq_true
def a4X:=@List.mem_singleton
def a4Y:=@Nat.mul_le_mul_right
def a4Z:=@List.mem_of_mem_take
def a5a:=@List.mem_append
def a5b:=@List.nil_append
def a5c:=@List.drop_eq_getElem_cons
def a5d:=@List.mem_map
def a5e:=@Nat.zero_add
def a5f:=@List.take_length
def a5g:=@Int.toNat_natCast
def a5h:=@List.map_cons
def a5i:=@List.mem_cons
def a5j:=@List.getElem?_map
def a5k:=@Nat.le_refl
def a5l:=@List.flatMap_cons
def a5m:=@List.getElem_mem
def a5n:=@List.mem_of_mem_drop
def a5o:=@Nat.zero_le
def a5p:=@List.take_append_drop
def a5q:=@List.getD_cons_zero
def a5r:=@List.pairwise_cons
def a5s:=@List.getD_eq_getElem?_getD
def a5t:=@Nat.mul_one
def a5u:=@Array.getD_eq_getD_getElem?
def a5v:=@List.drop_eq_nil_of_le
def a5w:=@Bool.not_false
def a5x:=@List.getD_cons_succ
def a5y:=@List.getElem_of_mem
def a5z:=@List.takeWhile_cons
def a5A:=@Option.isSome_iff_exists
def a5B:=@List.drop_drop
def a5C:=@Nat.shiftRight_eq_div_pow
def a5D:=@List.flatMap_append
def a5E:=@List.takeWhile_append_dropWhile
def a5F:=@Bool.not_true
def a5G:=@UInt8.toNat_inj
def a5H:=@Nat.le_trans
def a5I:=@List.cons_append
def a5J:=@Nat.add_mul
def a5K:=@List.getElem?_take_of_lt
def a5L:=@UInt8.toNat_ofNat'
def a5M:=@Option.map_some
def a5N:=@List.map_append
def a5O:=@List.foldl_cons
def a5P:=@List.pairwise_append
def a5Q:=@Bool.false_eq_true
def a5R:=@List.append_nil
def a5S:=@List.length_pos_iff
def a5T:=@List.drop_of_length_le
def a5U:=@Prod.mk.injEq
def a5V:=@List.take_succ_eq_append_getElem
def a5W:=@List.take_add_one
def a5X:=@Nat.lt_of_lt_of_le
def a5Y:=@List.take_take
def a5Z:=@List.mem_range
def a6a:=@Array.getElem?_eq_some_iff
def a6b:=@List.set_eq_take_append_cons_drop
def a6c:=@List.drop_succ_cons
def a6d:=@List.dropWhile_cons
def a6e:=@List.length_singleton
def a6f:=@List.drop_take
def a6g:=@Array.getElem?_toList
def a6h:=@List.take_append_of_le_length
def a6i:=@List.drop_append_of_le_length
def a6j:=@List.mem_cons_of_mem
def a6k:=@List.drop_append
def a6l:=@Bool.not_eq_true'
def a6m:=@Bool.true_and
def a6n:=@List.not_mem_nil
def a6o:=@Int.toNat_of_nonneg
def a6p:=@List.map_congr_left
def a6q:=@List.take_zero
def a6r:=@Nat.min_eq_left
def a6s:=@Bool.or_eq_true
def a6t:=@List.mem_cons_self
def a6u:=@List.getElem?_cons_zero
def a6v:=@Nat.mod_eq_of_lt
def a6w:=@Nat.pow_le_pow_right
def a6x:=@Nat.add_zero
def a6y:=@List.map_nil
def a6z:=@Prod.mk.inj
def a6A:=@List.flatten_cons
def a6B:=@List.length_zipWith
def a6C:=@List.take_succ_cons
def a6D:=@List.getElem?_append_left
def a6E:=@Array.getElem?_eq_getElem
def a6F:=@List.take_left'
def a6G:=@List.pairwise_iff_getElem
def a6H:=@List.length_replicate
def a6I:=@Option.isSome_none
def a6J:=@List.map_map
def a6K:=@Option.getD_some
def a6L:=@List.getElem?_cons_succ
def a6M:=@Int.eq_ofNat_of_zero_le
def a6N:=@List.foldl_append
def a6O:=@List.replicate_succ
def a6P:=@Iff.rfl
def a6Q:=@List.length_eq_one_iff
def a6R:=@Nat.testBit_lt_two_pow
def a6S:=@Nat.mod_lt
def a6T:=@List.exists_cons_of_ne_nil
def a6U:=@List.drop_zero
def a6V:=@List.mem_append_right
def a6W:=@List.mem_or_eq_of_mem_set
def a6X:=@List.eraseIdx_eq_take_drop_succ
def a6Y:=@Nat.min_self
def a6Z:=@List.mem_append_left
def a7a:=@List.getElem?_range
def a7b:=@Nat.shiftLeft_eq
def a7c:=@List.take_left
def a7d:=@Bool.false_and
def a7e:=@List.drop_left
def a7f:=@List.take_append
def a7g:=@Nat.one_mul
def a7h:=@Nat.sub_self
def a7i:=@Option.isSome_some
def a7j:=@List.cons.injEq
def a7k:=@List.length_set
def a7l:=@Array.getElem?_append_left
def a7m:=@Nat.eq_of_mul_eq_mul_right
def a7n:=@List.pairwise_map
def a7o:=@Nat.eq_of_testBit_eq
def a7p:=@Array.toList_map
def a7q:=@List.drop_length
def a7r:=@List.perm_middle
def a7s:=@Array.getElem?_setIfInBounds_ne
def a7t:=@Nat.add_sub_cancel_left
def a7u:=@List.map_drop
def a7v:=@Bool.eq_iff_iff
def a7w:=@List.append_of_mem
def a7x:=@Nat.xor_lt_two_pow
def a7y:=@Option.map_eq_some_iff
def a7z:=@Nat.shiftLeft_add_eq_or_of_lt
def a7A:=@Bool.false_xor
def a7B:=@List.getElem?_eq_none
def a7C:=@List.take_length_add_append
def a7D:=@List.drop_length_add_append
def a7E:=@List.getElem?_of_mem
def a7F:=@List.flatMap_nil
def a7G:=@List.any_eq_true
def a7H:=@List.getElem?_append_right
def a7I:=@List.map_take
def a7J:=@Array.length_toList
def a7K:=@Nat.div_add_mod
def a7L:=@Nat.div_le_self
def a7M:=@List.drop_left'
def a7N:=@List.mem_filter
def a7O:=@List.getElem?_drop
def a7P:=@Int.cast_ofNat_Int
def a7Q:=@List.Pairwise.imp_of_mem
def a7R:=@List.filter_append
def a7S:=@List.mem_of_mem_eraseIdx
def a7T:=@Option.map_map
def a7U:=@List.foldl_nil
def a7V:=@List.length_pos_of_mem
def a7W:=@Nat.add_assoc
def a7X:=@List.sum_cons
def a7Y:=@Array.toList_inj
def a7Z:=@Option.getD_none
def a8a:=@List.flatMap_def
def a8b:=@List.append_cons
def a8c:=@List.filter_cons
def a8d:=@Bool.and_eq_false_iff
def a8e:=@List.singleton_append
def a8f:=@List.length_filter_le
def a8g:=@Nat.zero_mul
def a8h:=@Array.eq_empty_of_size_eq_zero
def a8i:=@Bool.or_eq_false_iff
def a8j:=@Nat.testBit_xor
def a8k:=@List.getElem?_append
def a8l:=@List.filter_eq_self
def a8m:=@Nat.mul_le_mul
def a8n:=@Int.le_refl
def a8o:=@Array.getElem?_map
def a8p:=@List.mem_filterMap
def a8q:=@Array.extract_eq_self_of_le
def a8r:=@Array.toList_setIfInBounds
def a8s:=@Bool.and_true
def a8t:=@Bool.false_or
def a8u:=@Nat.testBit_two_pow_add_gt
def a8v:=@Int.tdiv_eq_ediv_of_nonneg
def a8w:=@List.cons.inj
def a8x:=@Nat.lt_trichotomy
def a8y:=@List.ext_getElem?
def a8z:=@List.mem_flatten
def a8A:=@List.isEmpty_iff
def a8B:=@Nat.add_comm
def a8C:=@Int.zero_add
def a8D:=@Nat.pow_succ
def a8E:=@List.ext_getElem
def a8F:=@BitVec.toNat_xor
def a8G:=@Int.sub_zero
def a8H:=@List.getElem_map
def a8I:=@Nat.le_mul_of_pos_right
def a8J:=@Nat.testBit_mod_two_pow
def a8K:=@List.filter_cons_of_neg
def a8L:=@List.filter_cons_of_pos
def a8M:=@List.append_inj
def a8N:=@List.range_succ
def a8O:=@List.filter_nil
def a8P:=@BitVec.isLt
def a8Q:=@List.range_succ_eq_map
def a8R:=@Nat.le_mul_of_pos_left
def a8S:=@List.getElem?_set_self
def a8T:=@List.modify_zero_cons
def a8U:=@List.modify_succ_cons
def a8V:=@Array.getElem?_append
def a8W:=@List.take_succ
def a8X:=@Nat.add_sub_add_right
def a8Y:=@Array.ext'
def a8Z:=@Array.getElem?_range
def a9a:=@List.replicate_succ'
def a9b:=@List.take_add
def a9c:=@List.take_nil
def a9d:=@List.toList_toArray
def a9e:=@Array.toList_zipIdx
def a9f:=@Nat.mul_le_mul_left
def a9g:=@Nat.testBit_two_pow
def a9h:=@List.drop_set_of_lt
def a9i:=@Nat.le_of_eq
def a9j:=@Nat.succ_mul
def a9k:=@Nat.mul_comm
def a9l:=@Nat.succ_pos
def a9m:=@List.all_map
def a9n:=@Bool.true_or
def a9o:=@Nat.lt_or_ge
namespace Go.bA
open Go
inductive Own where
 |any
 |nil
 |zero
 |buf (g cap:Nat)
inductive R where
 |v (x:Value)
 |ptr (l off:Nat)
 |bV (cs:List R)
 |J (xs:List R) (o:Own)
 |bw (l off len cap k:Nat)
 |al (l n cap k:Nat)
 |agg (cs:List R)
 |aL (a:List R)
 |iface (t:TypeId) (x:R)
 |bG (f:Nat) (pre cap:List R)
 |gT (l:Nat)
def R.cells:R->List R
 | .agg cs=>cs
 | .aL _=> []
 |a=> [a]
def R.one:R->Bool
 | .agg _=>false
 | .aL _=>false
 | _=>true
def flat (a:List R):List R:=a.flatMap R.cells
abbrev bl:=Nat->Nat->Option Value
def Own.ok (a:Own) (b c d:Nat):Prop:=
 match a with
 | .any=>True
 | .buf h k=>h=b/\c=0/\k=d
 | _=>False
def Own.lH (a:Own) (b:Option Addr) (c:Nat):Prop:=
 match a with
 | .any=>True
 | .nil=>b=none
 | .zero=>c=0
 | .buf _ _=>False
inductive aZ (p:bl):Value->R->Prop
 |v (x:Value) (h:x.oneCell'=true):aZ p x (.v x)
 |ptr (l off:Nat):aZ p (.pointer (some ⟨l,off,none⟩)) (.ptr l off)
 |bV (b off:Nat) (C:Nat->Value) (cs:List R) (E: ∀c∈cs,c.one=true) (hH: ∀d,d<cs.length->p b (off+d)=some (C d))
   (D: ∀d r,cs[d]? =some r->aZ p (C d) r):aZ p (.pointer (some ⟨b,off,none⟩)) (.bV cs)
 |di (a:Option Addr) (cap:Nat) (o:Own) (bP:a=none->cap=0) (L:o.lH a cap):aZ p (.slice a 0 cap) (.J [] o)
 |J (b off len cap k:Nat) (C:Nat->Value) (xs:List R) (o:Own) (hk:0<k) (hlen:len=xs.length) (F:len<=cap) (P: ∀e∈xs,e.cells.length=k)
   (E: ∀c∈flat xs,c.one=true) (hH: ∀d,d<len*k->p b (off+d)=some (C d)) (D: ∀d r,(flat xs)[d]? =some r->aZ p (C d) r) (L:o.ok b off cap):
   aZ p (.slice (some ⟨b,off,none⟩) len cap) (.J xs o)
 |bw (l off len cap k:Nat) (hk:0<k) (F:len<=cap):aZ p (.slice (some ⟨l,off,none⟩) len cap) (.bw l off len cap k)
 |al (l n cap k:Nat) (hk:0<k) (F:n<=cap):aZ p (.slice (some ⟨l,0,none⟩) n cap) (.al l n cap k)
 |agg (z:Array Value) (cs:List R) (E: ∀c∈cs,c.one=true) (G:z.size=cs.length) (D: ∀d r,cs[d]? =some r->aZ p (z.getD d undef) r):aZ p (.agg z) (.agg cs)
 |aL (z:Array Value) (cs:List R) (G:z.size=cs.length) (D: ∀d r,cs[d]? =some r->aZ p (z.getD d undef) r):aZ p (.tuple z) (.aL cs)
 |iface (t:TypeId) (x:Value) (y:R) (h:aZ p x y):aZ p (.iface t x) (.iface t y)
 |bG (f:Nat) (ws z:Array Value) (cB cs:List R) (hw:ws.size=cB.length) (S: ∀d r,cB[d]? =some r->aZ p (ws.getD d undef) r) (G:z.size=cs.length) (D: ∀d r,cs[d]? =some r->aZ p (z.getD d undef) r):aZ p (.func (.func f) ws z) (.bG f cB cs)
 |gT (l:Nat):aZ p (.map (some l)) (.gT l)
def br (h:bl) (a:Array Value) (b:List R):Prop:=a.size=b.length/\ ∀c d,b[c]? =some d->aZ h (a.getD c undef) d
def bl.le (c d:bl):Prop:= ∀a b v,c a b=some v->d a b=some v
theorem bl.le.refl (a:bl):a.le a:=λ_ _ _ b=>b
variable{u:bl}
theorem bl.le.trans {a b:bl} (h:u.le a) (k:a.le b):u.le b:=λc d v o=>k c d v (h c d v o)
variable{e4:Value}
def aZ.mono {E:bl} (F:u.le E) {a:R} (p:aZ u e4 a):aZ E e4 a:=by
 induction p with
 |v e4 p=>exact .v e4 p
 |ptr b off=>exact .ptr b off
 |bV r off x cs c hH _ ih=>exact .bV r off x cs c (λy z=>F _ _ _ (hH y z)) ih
 |di a cap C bP D=>exact .di a cap C bP D
 |J r off len cap d x xs C hk hlen h G c hH _ D ih=>exact .J r off len cap d x xs C hk hlen h G c (λy z=>F _ _ _ (hH y z)) ih D
 |bw b off len cap d hk h=>exact .bw b off len cap d hk h
 |al b L cap d hk h=>exact .al b L cap d hk h
 |agg k cs c o _ ih=>exact .agg k cs c o ih
 |aL k cs o _ ih=>exact .aL k cs o ih
 |iface P e4 S _ ih=>exact .iface P e4 S ih
 |bG T ws k cB cs hw _ o _ V ih=>exact .bG T ws k cB cs hw V o ih
 |gT b=>exact .gT b
def br.mono {a b:bl} (k:a.le b) {c:Array Value}{d:List R} (h:br a c d):br b c d:=⟨h.1,λo p r=>(h.2 o p r).mono k⟩
variable{n b3:R}
def aZ.nI (a:aZ u e4 n) (b:n.one=true):e4.oneCell'=true:=by cases a<;>first|assumption|rfl|(simp[R.one]at b)
theorem aZ.undef (a:bl):aZ a Go.undef (.aL []):= .aL #[] [] rfl (λc d b=>by simp at b)
theorem aZ.cells {o:bl}{b:Value}{h:R} (p:aZ o b h) (y:0<h.cells.length):br o b.cells h.cells/\ ∀k∈h.cells,k.one=true:=by
 have z:=p;cases p with
 |agg C cs D r x=>exact⟨⟨r,x⟩,D⟩
 |aL C cs r x=>simp[R.cells]at y
 |v b F=>
  refine⟨⟨?_,?_⟩,by intro k c;simp[R.cells]at c;subst c;rfl⟩
  .cases b<;>simp_all [Value.cells,R.cells,Value.oneCell']
  .intro d E a
   match d,a with
   |0,a=>simp[R.cells]at a;subst a;cases b<;>simp_all [Value.cells,Value.oneCell']
   |d+1,a=>simp[R.cells]at a
 | _=>
  refine⟨⟨rfl,?_⟩,by intro k c;simp[R.cells]at c;subst c;rfl⟩;intro d E a
  match d,a with
  |0,a=>simp[R.cells]at a;subst a;exact z
  |d+1,a=>simp[R.cells]at a
inductive bp where
 |cells (cs:List R)
 |ro (cs:List R)
 |buf (k n cap:Nat)
 |it (t:ByteArray) (pos:Nat)
 |mp (es:List (R×R×Nat)) (clock:Nat)
 |vK (m:Option Nat) (since:Nat) (seen:List Nat) (a:Nat)
 |oN (T:TypeId) (cs:List R)
 |fX (cs:List R)
abbrev U:=Nat->Option bp
def U.set (b:U) (l:Nat) (c:bp):U:=λa=>if a=l then some c else b a
def U.del (b:U) (c:Nat):U:=λa=>if a=c then none else b a
def U.emp:U:=λ_=>none
def U.sub (c d:U):Prop:= ∀a b,c a=some b->d a=some b
def rv (c:bl) (a:MapEntry) (b:R×R×Nat):Prop:=aZ c a.key b.1/\aZ c a.val b.2.1/\a.born=b.2.2
def nJ (k:bl) (a:Array MapEntry) (b:List (R×R×Nat)):Prop:=a.size=b.length/\ ∀(c:Nat) (d:MapEntry) (h:R×R×Nat),a[c]? =some d->b[c]? =some h->rv k d h
def nJ.mono {o p:bl} (r:o.le p) {x:Array MapEntry}{y:List (R×R×Nat)} (a:nJ o x y):nJ p x y:=
 ⟨a.1,λb c d h k=>⟨(a.2 b c d h k).1.mono r,(a.2 b c d h k).2.1.mono r,(a.2 b c d h k).2.2⟩⟩
def kW (d:bl) (h:World) (b:Nat):bp->Prop
 | .cells cs=>(∀k∈cs,k.one=true)/\ ∃a T,h.heap[b]? =some (.cells a T (0,0))/\br d a cs/\ ∀c,d b c=none
 | .ro cs=>(∀k∈cs,k.one=true)/\ ∃a T x,h.heap[b]? =some (.cells a T x)/\br d a cs/\ ∀c,c<a.size->d b c=some (a.getD c undef)
 | .buf o p cap=>0<o/\p<=cap/\cap<=maxLen/\ ∃a T,h.heap[b]? =some (.cells a T (0,0))/\a.size=cap*o/\ ∀c,p*o<=c->d b c=none
 | .it y pos=>h.heap[b]? =some (.stringIter y pos)
 | .mp us clock=> ∃r,h.heap[b]? =some (.map r clock)/\nJ d r us
 | .vK z since seen C=>h.heap[b]? =some (.mapIter z since seen.toArray C)
 | .fX cs=>(∀k∈cs,k.one=true)/\ ∃a T,h.heap[b]? =some (.cells a T (a.size,a.size+1))/\br d a cs/\ ∀c,d b c=none
 | .oN T cs=>(∀k∈cs,k.one=true)/\ ∃a,h.heap[b]? =some (.cells a T (0,0))/\br d a cs/\ ∀c,d b c=none
structure Holds (a:bl) (c:U) (w:World):Prop where
 ro: ∀b o v,a b o=some v->w.cell? ⟨b,o,none⟩=some v
 dS: ∀l o,c l=some o->kW a w l o
structure Step (k:bl) (c:U) (w:World) (h:bl) (d:U) (a:World):Prop where
 holds:Holds h d a
 le:k.le h
 os:a.os=w.os
 tape:a.tape=w.tape
 output:a.output=w.output/\w.drawn<=a.drawn
 size:w.heap.size<=a.heap.size
 block: ∀b,b<w.heap.size->c b=none->a.heap[b]? =w.heap[b]?
 en: ∀b,d b≠none->c b≠none\/w.heap.size<=b
 mw: ∀b o,h b o≠none->k b o≠none\/c b≠none\/w.heap.size<=b
 jz: ∀b cs,b<w.heap.size->c b=some (.ro cs)->a.heap[b]? =w.heap[b]? /\(d b=none\/ ∃p,d b=some (.ro p))
theorem Step.refl {b:bl}{c:U}{d:World} (a:Holds b c d):Step b c d b c d:=
 ⟨a,.refl b,rfl,rfl,⟨rfl,a5k _⟩,a5k _,λ_ _ _=>rfl,λ_ a=> .inl a,λ_ _ a=> .inl a,λ_ _ _ a=>⟨rfl,.inr ⟨_,a⟩⟩⟩
theorem Step.trans {C D E:bl}{F p z:U}{G L P:World} (b:Step C F G D p L) (c:Step D p L E z P):Step C F G E z P where
 holds:=c.holds
 le:=b.le.trans c.le
 os:=c.os.trans b.os
 tape:=c.tape.trans b.tape
 output:=⟨c.output.1.trans b.output.1,a5H b.output.2 c.output.2⟩
 size:=a5H b.size c.size
 block:=λa h r=>by
  have x:p a=none:=by
   cases d:p a with
   |none=>rfl
   |some y=>
     rcases b.en a (by simp[d])with o|o
     .exact absurd r o
     .omega
  rw[c.block a (a5X h b.size) x,b.block a h r]
 en:=λa h=>by
  rcases c.en a h with d|d
  .exact b.en a d
  .exact .inr (a5H b.size d)
 mw:=λa y h=>by
  rcases c.mw a y h with d|d|d
  .exact b.mw a y d
  .exact .inr (b.en a d)
  .exact .inr (.inr (a5H b.size d))
 jz:=λa T h r=>by
  obtain⟨x,k⟩:=b.jz a T h r;have S:=a5X h b.size;rcases k with k|⟨V,k⟩
  .refine⟨by rw[c.block a S k,x],.inl ?_⟩;cases d:z a with
   |none=>rfl
   |some y=>
     rcases c.en a (by simp[d])with o|o
     .exact absurd k o
     .omega
  .obtain⟨W,e⟩:=c.jz a V S k;exact⟨by rw[W,x],e⟩
variable{f t e7:U}{e i v M c0 j0:Nat}{l h8:World}
def Holds.lt (a:Holds u f l) {v:Value} (b:u e i=some v):e<l.heap.size:=
 World.block_lt_of_cell? l _ (a.ro e i v b)
def Holds.mx (b:Holds u f l) (a:Nat):u l.heap.size a=none:=by
 cases c:u l.heap.size a with
 |none=>rfl
 |some v=>have:=b.lt c;omega
variable{Y:bp}
theorem kW.lt (a:kW u l e Y):e<l.heap.size:=by
 cases Y with
 |cells cs=>obtain⟨_,c,T,b,_⟩:=a;grind
 |ro cs=>obtain⟨_,c,T,d,b,_⟩:=a;grind
 |buf h k cap=>obtain⟨_,_,_,c,T,b,_⟩:=a;grind
 |it o pos=>exact(a6a.1 a).1
 |mp us clock=>obtain⟨p,b,_⟩:=a;grind
 |vK r since seen x=>exact(a6a.1 a).1
 |oN T cs=>obtain⟨_,c,b,_⟩:=a;grind
 |fX cs=>obtain⟨_,c,T,b,_⟩:=a;grind
def Holds.en (a:Holds u f l):f l.heap.size=none:=by
 cases b:f l.heap.size with
 |none=>rfl
 |some v=>have:=(a.dS _ _ b).lt;omega
theorem kW.kept {x:bl} (o:kW u h8 e Y) (r:u.le x) (p:l.heap[e]? =h8.heap[e]?) (L: ∀a,x e a≠none->u e a≠none):kW x l e Y:=by
 have y: ∀a,u e a=none->x e a=none:=λa z=>by
  grind
 cases Y with
 |cells cs=>obtain⟨c,d,T,b,h,k⟩:=o;exact⟨c,d,T,by rw[p];exact b,h.mono r,λa=>y a (k a)⟩
 |ro cs=>obtain⟨c,d,T,C,b,h,k⟩:=o;exact⟨c,d,T,C,by rw[p];exact b,h.mono r,λa z=>r _ _ _ (k a z)⟩
 |buf P S cap=>obtain⟨c,D,E,d,T,b,h,k⟩:=o;exact⟨c,D,E,d,T,by rw[p];exact b,h,λa z=>y a (k a z)⟩
 |it V pos=>exact by show l.heap[e]? = _;rw[p];exact o
 |mp us clock=>obtain⟨F,b,G⟩:=o;exact⟨F,by rw[p];exact b,G.mono r⟩
 |vK W since seen f=>exact by show l.heap[e]? = _;rw[p];exact o
 |oN T cs=>obtain⟨c,d,b,h,k⟩:=o;exact⟨c,d,by rw[p];exact b,h.mono r,λa=>y a (k a)⟩
 |fX cs=>obtain⟨c,d,T,b,h,k⟩:=o;exact⟨c,d,T,by rw[p];exact b,h.mono r,λa=>y a (k a)⟩
def Holds.drop (a:Holds u f l) (d:t.sub f):Holds u t l:=⟨a.ro,λb c h=>a.dS b c (d b c h)⟩
theorem Step.drop {p r:bl}{x y c:U}{z C:World} (a:Step p x z r y C) (h:c.sub y):Step p x z r c C where
 holds:=a.holds.drop h
 le:=a.le
 os:=a.os
 tape:=a.tape
 output:=a.output
 size:=a.size
 block:=a.block
 en:=λb k=>a.en b (by
  cases d:c b with
  |none=>exact absurd d k
  |some o=>simp[h b o d])
 mw:=a.mw
 jz:=λb D k d=>by
  obtain⟨E,G⟩:=a.jz b D k d;refine⟨E,?_⟩;cases F:c b with
  |none=>exact .inl rfl
  |some o=>have L:=h b o F;simp_all
def Holds.drew {a:bl}{b:U}{c:World} (d:Holds a b c):Holds a b c.drew:=⟨d.ro,λk h o=>by
 have:=d.dS k h o;cases h<;>exact this⟩
def Step.drew {b:bl}{c:U}{d:World} (a:Holds b c d):Step b c d b c d.drew:=
 ⟨a.drew,.refl b,rfl,rfl,⟨rfl,Nat.le_succ _⟩,a5k _,λ_ _ _=>rfl,λ_ a=> .inl a,λ_ _ a=> .inl a,λ_ _ _ a=>⟨rfl,.inr ⟨_,a⟩⟩⟩
def up (b:R->U->Prop):R->U->Prop:=λv c=> ∃a,a.sub c/\b v a
def hK (x:Program) (y:FuncId) (z:List R) (k:U) (C D:R->U->Prop):Prop:=
 ∀(o:Array Value) (d:World) (h:bl),br h o z->Holds h k d->
  Calls x y o d λp r=>(∃v a b c,p= .returned v/\Step h k d b c r/\aZ b v a/\C a c)\/
   (∃v a b c,p= .panicked [{v,recovered:=false}]/\Step h k d b c r/\aZ b v a/\D a c)
theorem hK.mono {c:Program}{d:FuncId}{h:List R}{k:U}{o p r x:R->U->Prop} (y:hK c d h k o r) (G: ∀a b,o a b->p a b) (L: ∀a b,r a b->x a b):hK c d h k p x:=
 λz C D E F=>(y z C D E F).mono λ_ _ P=>by
  grind
def AC (p:Program) (r:FuncId) (x:List R) (c:U) (y:R->U->Prop):Prop:=
 ∀(d:Array Value) (a:World) (b:bl),br b d x->Holds b c a->
  Calls p r d a λz C=> ∃v h k o,z= .returned v/\Step b c a k o C/\aZ k v h/\y h o
variable{s a7:R -> U -> Prop}{b4:FuncId}{g A e1:List R}{m:Program}
def AC.p (a:AC m b4 g f s):hK m b4 g f s a7:=
 λb c d h k=>(a b c d h k).mono λ_ _ o=> .inl o
def hK.H5 (b:hK m b4 g f s (up λ_ _=>False)):AC m b4 g f s:=
 λc d h k o=>(b c d h k o).mono λ_ _ a=>by
  rcases a with a|⟨v,r,x,y,z,C,D,_,_,p⟩
  .exact a
  .exact p.elim
def AC.mono {c:Program}{d:FuncId}{h:List R}{k:U}{o p:R->U->Prop} (r:AC c d h k o) (x: ∀a b,o a b->p a b):AC c d h k p:=
 λy z C D E=>(r y z C D E).mono λ_ _ ⟨v,a,F,b,G,L,P,S⟩=>⟨v,a,F,b,G,L,P,x _ _ S⟩
def Shift (k:List R) (c:U) (o:List R) (p:U):Prop:=
 ∀(d:Array Value) (a:World) (b:bl),br b d k->Holds b c a-> ∃h,br h d o/\Step b c a h p a
def AC.pre (d:AC m b4 A f s) (h:Shift g t A f):AC m b4 g t s:=
 λa b k o p=>by
  obtain⟨r,x,c⟩:=h a b k o p;exact(d a b r x c.holds).mono λ_ _ ⟨v,y,z,f,C,D,E,F⟩=>⟨v,y,z,f,C,c.trans D,E,F⟩
def U.pV (b c:U):Prop:= ∀a,b a=none\/c a=none
def U.join (b c:U):U:=λa=>(b a).or (c a)
def U.my (a:f e=some Y):(f.join t) e=some Y:=by simp[U.join,a]
def U.oO (a:f e=none):(f.join t) e=t e:=by simp[U.join,a]
def Step.frame {z:bl}{t:U} (d:Step u f l z e7 h8) (C:f.pV t) (L:Holds u (f.join t) l):
  Step u (f.join t) l z (e7.join t) h8/\e7.pV t:=by
 have D: ∀b h,t b=some h->f b=none/\kW u l b h:=λb h r=>by
  have a:f b=none:=(C b).resolve_right (by simp[r]);exact⟨a,L.dS b h (by rw[U.oO a];exact r)⟩
 have E:e7.pV t:=λb=>by
  cases r:t b with
  |none=>exact .inr rfl
  |some h=>
   left;obtain⟨y,p⟩:=D b h r;cases a:e7 b with
   |none=>rfl
   |some F=>
     rcases d.en b (by simp[a])with c|c
     .exact absurd y c
     .have:=p.lt;omega
 refine⟨⟨⟨d.holds.ro,λb h r=> ?_⟩,d.le,d.os,d.tape,d.output,d.size,λk x a=> ?_,λk x=> ?_,λk h x=> ?_,λk G x a=> ?_⟩,E⟩
 .cases a:e7 b with
  |some F=>rw[U.my a]at r;obtain rfl:=a4G r;exact d.holds.dS b F a
  |none=>
   rw[U.oO a]at r;obtain⟨y,p⟩:=D b h r;refine p.kept d.le (d.block b p.lt y) λP S=> ?_;rcases d.mw b P S with c|c|c
   .exact c
   .exact absurd y c
   .have:=p.lt;omega
 .exact d.block k x (by
   cases o:f k with
   |none=>rfl
   |some h=>rw[U.my o]at a;cases a)
 .cases a:e7 k with
  |some h=>
   rcases d.en k (by simp[a])with c|c
   .left;cases o:f k with
    |none=>exact absurd o c
    |some h=>simp[U.my o]
   .exact .inr c
  |none=>
   rw[U.oO a]at x;left;cases o:f k with
   |some h=>simp[U.my o]
   |none=>rw[U.oO o];exact x
 .rcases d.mw k h x with c|c|c
  .exact .inl c
  .right;left;cases o:f k with
   |none=>exact absurd o c
   |some h=>simp[U.my o]
  .exact .inr (.inr c)
 .cases o:f k with
  |some h=>
   rw[U.my o]at a;obtain rfl:=a4G a;obtain⟨y,p⟩:=d.jz k G x o;refine⟨y,?_⟩;rcases p with p|⟨T,p⟩
   .rw[U.oO p];left;exact(C k).resolve_left (by simp[o])
   .exact .inr ⟨T,U.my p⟩
  |none=>rw[U.oO o]at a;refine⟨d.block k x o,.inr ⟨G,?_⟩⟩;rw[U.oO ((E k).resolve_right (by simp[a]))];exact a
def U.H6 (a b:U):a.sub (a.join b):=λ_ _ c=>U.my c
def hK.frame {y:Program}{z:FuncId}{C:List R}{c t:U}{D E:R->U->Prop} (F:hK y z C c D (up E)) (k:c.pV t):
  hK y z C (c.join t) (λb G=> ∃a,D b a/\a.pV t/\G=a.join t) (up E):=
 λL P S T d=>(F L P S T (d.drop (U.H6 c t))).mono λ_ _ V=>by
  rcases V with ⟨v,b,o,a,p,h,r,x⟩|⟨v,b,o,a,p,h,r,W,e,x⟩
  .exact .inl ⟨v,b,o,a.join t,p,(h.frame k d).1,r,a,x,(h.frame k d).2,rfl⟩
  .exact .inr ⟨v,b,o,a.join t,p,(h.frame k d).1,r,W,λf g i=>U.my (e f g i),x⟩
def pW (a:World) (c:Obj) (b:Nat) (d:b≠a.heap.size):(a.alloc c).heap[b]? =a.heap[b]? :=by show(a.heap.push c)[b]? = _;rw[Array.getElem?_push,if_neg d]
theorem U.ah (c:U) (a:Nat) (b:bp):(c.set a b) a=some b:=by simp[U.set]
theorem U.an (a:U) (b:bp) (c:e≠i):(a.set i b) e=a e:=by simp[U.set,c]
theorem U.ir (b:U) (a:Nat):(b.del a) a=none:=by simp[U.del]
theorem U.eI (a:U) (b:e≠i):(a.del i) e=a e:=by simp[U.del,b]
def bl.ext (c:bl) (d h:Nat) (k:Array Value):bl:=λb a=>if b=d/\a<h then k[a]? else c b a
theorem bl.oP (d:bl) (a b:Nat) (c:Array Value) (h:e<b):(d.ext a b c) a e=c[e]? :=by simp[bl.ext,h]
theorem bl.oQ (a:bl) (b c:Nat) (d:Array Value) (h: ¬(e=b/\i<c)):(a.ext b c d) e i=a e i:=by simp[bl.ext,h]
theorem Step.write {W:Nat×Nat} (z:Holds u f l) (c o:Nat) (k:Array Value) (e:TypeId) (r:U)
  (g:h8.os=l.os) (i:h8.tape=l.tape) (x:(h8.output,h8.drawn)=(l.output,l.drawn)) (j:l.heap.size<=h8.heap.size)
  (m:h8.heap[c]? =some (.cells k e W)) (C: ∀a,a<l.heap.size->a≠c->h8.heap[a]? =l.heap[a]?)
  (B:c=l.heap.size\/(f c≠none/\ ∀F,f c≠some (.ro F)))
  (H:o<=k.size) (n: ∀b v,u c b=some v->k[b]? =some v)
  (G: ∀h b,h≠c->r h=some b->f h=some b)
  (q: ∀b,r c=some b->kW (u.ext c o k) h8 c b):Step u f l (u.ext c o k) r h8:=by
 have L:u.le (u.ext c o k):=λa b v p=>by
  by_cases d:a=c/\b<o
  .obtain⟨rfl,s⟩:=d;rw[bl.oP _ _ _ _ s];exact n b v p
  .rw[bl.oQ _ _ _ _ d];exact p
 have P: ∀a,a≠c-> ∀y,(u.ext c o k) a y=u a y:=λa d y=>bl.oQ _ _ _ _ (λt=>d t.1);have x:h8.output=l.output/\l.drawn<=h8.drawn:=⟨congrArg Prod.fst x,a9i (congrArg Prod.snd x).symm⟩;refine⟨⟨λa b v p=> ?_,λh b S=> ?_⟩,L,g,i,x,j,λa d w=> ?_,λa d=> ?_,λa b d=> ?_,λa F d w=> ?_⟩
 .by_cases d:a=c
  .subst d;simp only[World.cell?,m,a6I,a5Q,if_false];grind[bl.oP,bl.oQ]
  .rw[P a d]at p;have:=z.ro a b v p;have A:=z.lt p;rw[<-this];exact World.cell?_of_block (C a A d)
 .by_cases d:h=c
  .subst d;exact q b S
  .have T:=z.dS h b (G h b d S);exact T.kept L (C h T.lt d) (λy V=>by rw[P h d]at V;exact V)
 grind
 .by_cases D:a=c;grind
  .left;cases E:r a with
   |none=>exact absurd E d
   |some b=>simp[G a b D E]
 grind
 .have D:a≠c:=by grind
  refine⟨C a d D,?_⟩;cases E:r a with
  |none=>exact .inl rfl
  |some b=>simp_all
def bl.pX (a:bl) (b:Nat) (c:Array Value):a.ext b 0 c=a:=by funext d h;simp[bl.ext]
def Step.new (d:Holds u f l) (a:Array Value) (b:TypeId) (c:List R) (r: ∀x∈c,x.one=true) (y:br u a c):
  Step u f l u (f.set l.heap.size (.cells c)) (l.alloc (.cells a b)):=by
 have:=Step.write (h8:=l.alloc (.cells a b)) d l.heap.size 0 a b (f.set l.heap.size (.cells c)) rfl rfl rfl a9q (heap_alloc_new l _) (λz _ C=>pW l _ z C) (.inl rfl)
  (a5o _) (λh v k=>by rw[d.mx]at k;cases k) (λE h D o=>by rw[U.an _ _ D]at o;exact o)
  (λh p=>by
   rw[U.ah]at p;obtain rfl:=a4G p;rw[bl.pX];exact⟨r,a,b,heap_alloc_new l _,y,d.mx⟩)
 rwa[bl.pX]at this
def putAt (a:List R) (b:Nat) (c:List R):List R:=a.take b++c++a.drop (b+c.length)
theorem eJ (a:List R) (b:Nat) (c:List R) (d:b+c.length<=a.length):(putAt a b c).length=a.length:=by simp[putAt];omega
def cX (a:Array Value) (b:Nat) (c:List Value):Array Value:=(a.toList.take b++c++a.toList.drop (b+c.length)).toArray
variable{j8:Array Value}
theorem br.dT:br u j8 g↔j8.toList.length=g.length/\ ∀(a:Nat) (h:Value) (b:R),j8.toList[a]? =some h->g[a]? =some b->aZ u h b:=by
 constructor
 .rintro⟨c,k⟩;refine⟨by simpa using c,λa h b p d=> ?_⟩;have:=k a b d;simp_all
 .rintro⟨c,k⟩;refine⟨by simpa using c,λa b d=> ?_⟩;have r:a<g.length:=(a4P.1 d).1;have o:a<j8.size:=by simp at c;omega
  refine k a _ b ?_ d;simp[o]
theorem br.putAt {a:bl}{h:Array Value}{b c:List R}{k:Array Value} (o:br a h b) (p:br a k c) (d:Nat) (r:d+c.length<=b.length):
  br a (cX h d k.toList) (putAt b d c):=by
 grind[br.dT,cX,Go.bA.putAt,List.length_append,List.length_take,List.length_drop,List.append_assoc,List.getElem?_append_left]
theorem tu (c: ∀a∈g,a.one=true) (d: ∀a∈A,a.one=true) (b:Nat): ∀a∈putAt g b A,a.one=true:=by grind[putAt,List.mem_of_mem_take,List.mem_of_mem_drop]
theorem br.nI {k:bl}{c:Array Value}{a:List R} (o:br k c a) (p: ∀r∈a,r.one=true): ∀b∈c.toList,b.oneCell'=true:=by
 intro b x;obtain⟨d,y⟩:=a7E x;obtain⟨C,z⟩:=br.dT.1 o;have h:d<a.length:=by grind
 exact(z d b _ y (a4H h)).nI (p _ (a5m h))
def Step.store (k:Holds u f l) (o:f e=some (.cells g)) (b:Nat) (c:List R) (d:Array Value) (D:br u d c)
  (E: ∀F∈c,F.one=true) (G:b+c.length<=g.length):
  ∃a T,l.heap[e]? =some (.cells a T (0,0))/\a.size=g.length/\Step u f l u (f.set e (.cells (putAt g b c))) (l.setRow e (cX a b d.toList)):=by
 obtain⟨L,a,T,h,p,r⟩:=k.dS e _ o;refine⟨a,T,h,p.1,?_⟩;have:=Step.write (h8:=l.setRow e (cX a b d.toList)) k e 0 (cX a b d.toList) T (f.set e (.cells (putAt g b c))) rfl rfl rfl a9q (setRow_heap l e a _ T _ h)
  (λP _ S=>setRow_other l e P _ S) (.inr (by simp[o])) (a5o _) (λx v y=>by rw[r]at y;cases y) (λW x V z=>by rw[U.an _ _ V]at z;exact z)
  (λx C=>by
   rw[U.ah]at C;obtain rfl:=a4G C;rw[bl.pX];exact⟨tu L E b,_,T,setRow_heap l e a _ T _ h,p.putAt D b G,r⟩)
 rwa[bl.pX]at this
def H7 (a:Array Value) (b:Nat) (c:List Value) (d:b+c.length<=a.size):(cX a b c).size=a.size:=by simp[cX];omega
def Step.H8 (o:Holds u f l) (p:f e=some (.fX g)) (b:Nat) (c:List R) (d:Array Value) (r:br u d c)
  (F: ∀G∈c,G.one=true) (x:b+c.length<=g.length):
  ∃a T,l.heap[e]? =some (.cells a T (a.size,a.size+1))/\a.size=g.length/\Step u f l u (f.set e (.fX (putAt g b c))) (l.setRow e (cX a b d.toList)):=by
 obtain⟨L,a,T,h,k,y⟩:=o.dS e _ p;refine⟨a,T,h,k.1,?_⟩;have P:d.toList.length=c.length:=by have:=r.1;simpa using this
 have S:(cX a b d.toList).size=a.size:=H7 _ _ _ (by rw[P,k.1];exact x);have:=Step.write (h8:=l.setRow e (cX a b d.toList)) o e 0 (cX a b d.toList) T (f.set e (.fX (putAt g b c))) rfl rfl rfl a9q (setRow_heap l e a _ T _ h)
  (λV _ W=>setRow_other l e V _ W) (.inr (by simp[p])) (a5o _) (λz v C=>by rw[y]at C;cases C) (λj z i D=>by rw[U.an _ _ i]at D;exact D)
  (λz E=>by
   rw[U.ah]at E;obtain rfl:=a4G E;rw[bl.pX];exact⟨tu L F b,_,T,by rw[S];exact setRow_heap l e a _ T _ h,k.putAt r b x,y⟩)
 rwa[bl.pX]at this
theorem Step.vL (k:Holds u f l) (b:f e=some (.cells g)\/(∃T,f e=some (.oN T g))\/f e=some (.fX g)):
  ∃C,Step u f l C (f.set e (.ro g)) l:=by
 obtain⟨o,p,a,T,z,c,r,x⟩:(f e≠none/\ ∀g,f e≠some (.ro g))/\(∀D∈g,D.one=true)/\ ∃a T z,l.heap[e]? =some (.cells a T z)/\br u a g/\ ∀d,u e d=none:=by
  rcases b with b|⟨T,b⟩|b
  .obtain⟨p,a,T,c,r,x⟩:=k.dS e _ b;simp_all
  .obtain⟨p,a,c,r,x⟩:=k.dS e _ b;simp_all
  .obtain⟨p,a,T,c,r,x⟩:=k.dS e _ b;simp_all
 refine⟨u.ext e a.size a,Step.write (h8:=l) k e a.size a T _ rfl rfl rfl (a5k _) c (λ_ _ _=>rfl) (.inr o) (a5k _) (λd v y=>by rw[x]at y;cases y)
  (λG d E o=>by rw[U.an _ _ E]at o;exact o) (λd h=> ?_)⟩
 rw[U.ah]at h;obtain rfl:=a4G h;have F:u.le (u.ext e a.size a):=λL d v y=>by
  rw[bl.oQ _ _ _ _ (λc=>by simp_all)];exact y
 refine⟨p,a,T,z,c,r.mono F,λd h=> ?_⟩;rw[bl.oP _ _ _ _ h];simp[h]
def Step.freeze (a:Holds u f h8) {l:Nat}{cs:List R} (b:f l=some (.cells cs)): ∃c,Step u f h8 c (f.set l (.ro cs)) h8:=Step.vL a (.inl b)
theorem br.sub (c:br u j8 g) (a b:Nat) (d:a+b<=g.length):br u (j8.extract a (a+b)) ((g.drop a).take b):=by grind[br.dT,List.getElem?_eq_some_iff,List.getElem?_take_of_lt,Array.getElem?_extract]
theorem Step.other (o:Holds u f l) (c:Nat) (ob:bp)
  (D:h8.os=l.os) (E:h8.tape=l.tape) (h:(h8.output,h8.drawn)=(l.output,l.drawn)) (F:l.heap.size<=h8.heap.size)
  (x: ∀a,a<l.heap.size->a≠c->h8.heap[a]? =l.heap[a]?) (T:c=l.heap.size\/(f c≠none/\ ∀y,f c≠some (.ro y))) (G: ∀d,u c d=none)
  (V:kW u h8 c ob):Step u f l u (f.set c ob) h8:=by
 have h:h8.output=l.output/\l.drawn<=h8.drawn:=⟨congrArg Prod.fst h,a9i (congrArg Prod.snd h).symm⟩;refine⟨⟨λa d v k=> ?_,λp d r=> ?_⟩,.refl u,D,E,h,F,λa b L=> ?_,λa b=> ?_,λa d b=> .inl b,λa y b L=> ?_⟩
 .have b:a≠c:=by rintro rfl;rw[G]at k;cases k
  have P:=o.lt k;rw[<-o.ro a d v k];exact World.cell?_of_block (x a P b)
 .by_cases b:p=c
  .subst b;rw[U.ah]at r;simp_all
  .rw[U.an _ _ b]at r;have z:=o.dS p d r;exact z.kept (.refl u) (x p z.lt b) (λW S=>S)
 grind
 .by_cases C:a=c;grind
  .rw[U.an _ _ C]at b;exact .inl b
 .have C:a≠c:=by grind
  grind[U.an]
def Step.A7 (b:Holds u f l) (c:Obj) (a:bp) (d:kW u (l.alloc c) l.heap.size a):Step u f l u (f.set l.heap.size a) (l.alloc c):=
 .other b _ a rfl rfl rfl a9q (λh _ k=>pW l _ h k) (.inl rfl) b.mx d
theorem Holds.H9 (c:Holds u f l) {b:Obj} (p:l.heap[e]? =some b) (r: ∀d h k,b≠ .cells d h k) (a:Nat):u e a=none:=by
 cases o:u e a with
 |none=>rfl
 |some v=>exfalso;have:=c.ro e a v o;grind[World.cell?,Option.some.inj]
def Step.A8 (a:Holds u f l) {b c:Obj} (d:f e≠none/\ ∀h,f e≠some (.ro h)) (k:l.heap[e]? =some b) (o: ∀p r x,b≠ .cells p r x) (y:kW u {l with heap:=l.heap.setIfInBounds e c} e Y):
  Step u f l u (f.set e Y) {l with heap:=l.heap.setIfInBounds e c}:=
 .other a e Y rfl rfl rfl a9q (λC _ z=>a7s (a4Q z)) (.inr d) (a.H9 k o) y
theorem tv (y:Program) (d b:Nat) (r:TypeId) (k:Nat×Nat): ∀(o:List Value) (a:Nat) (c:Array Value) (h:World),h.heap[d]? =some (.cells c r k)->(∀p,p<c.size-> ¬(k.1<=p/\p<k.2))->b+a+o.length<=c.size->(∀v∈o,v.oneCell'=true)->
  (storeCells ⟨d,b,none⟩ o a).run y h= .ok () (h.setRow d (c.toList.take (b+a)++o++c.toList.drop (b+a+o.length)).toArray)
 | [],a,c,h,x,_,_,_=>by
  simp only[storeCells,a5R,a4R,a6x,a5p,Array.toArray_toList];rw[setRow_self h d c r k x];rfl
 |v::rest,a,c,h,x,C,z,h1=>by
  have D:b+a<c.size:=by simp at z;omega
  have S:(⟨d,b,none⟩:Addr).add a=⟨d,b+a,none⟩:=by unfold Addr.add;split<;>simp_all
  have T:h.cell? ⟨d,b+a,none⟩=some c[b+a]:=by simp[World.cell?,x,D]
  have V:h.frozen? ⟨d,b+a,none⟩=false:=by grind[World.frozen?,Bool.and_eq_false_iff,decide_eq_false_iff_not]
  have E:(store ((⟨d,b,none⟩:Addr).add a) v).run y h= .ok () (h.setRow d (c.setIfInBounds (b+a) v)):=by grind[run_store,setCell_eq_setRow]
  have ih:=tv y d b r k rest (a+1) (c.setIfInBounds (b+a) v) (h.setRow d (c.setIfInBounds (b+a) v)) (setRow_heap h d c _ r _ x) (λp F=>C p (by simpa using F)) (by simp at z|-;omega) (λG L=>h1 G (by simp[L]));simp only[storeCells,Sem.run_bind,E,Result.andThen_ok,ih,setRow_setRow];congr 3;have P:=list_seg_step c.toList (b+a) v rest (by simp at z|-;omega);simpa[a8r,a7W] using P
def vM (b:Nat): ∀a,a<b-> ¬(((0,0):Nat×Nat).1<=a/\a<((0,0):Nat×Nat).2):=λa _=>by simp
section
structure Src (a:Program) (w:World) (k m:Nat) (x:Value) (b:List Value):Prop where
 len:(Builtin.lenOf x).run a w= .ok m w
 cells:(Builtin.firstCells k m x).run a w= .ok b.toArray w
 Ha:(Builtin.firstCells k m x).run a w.drew= .ok b.toArray w.drew
 size:b.length=m*k
def A9 (b:World) (D x T E:TypeId) (c:TypeInfo) (V:m.underlying D=some (.slice E)) (o:TypeDesc) (W:m.underlying x=some o) (e:(∃F,o= .slice F)\/o= .string)
  (f:m.info? E=some c) (d a y:Nat) (k:Array Value) (G:TypeId) (p:Nat×Nat) (g:b.heap[d]? =some (.cells k G p)) (i: ∀z,z<k.size-> ¬(p.1<=z/\z<p.2))
  (C:Nat) (L:Value) (h:List Value) (P:Src m b c.size C L h) (j: ∀l∈h,l.oneCell'=true) (n:a+C<=y) (q:a*c.size+h.length<=k.size):
  (Builtin.append_ #[D,x] T #[.slice (some ⟨d,0,none⟩) a y,L]).run m b= .ok (.slice (some ⟨d,0,none⟩) (a+C) y) (b.setRow d (cX k (a*c.size) h)):=by
 have S:=tv m d (a*c.size) G p h 0 k b g i (by simpa using q) j;simp only[a6x]at S;have s:(storeCells ⟨d,a*c.size,none⟩ h).run m b= .ok () (b.setRow d (cX k (a*c.size) h)):=by rw[S];rfl
 have t: ∀r:World,(underlying x).run m r= .ok o r:=λr=>run_underlying W r;rcases e with ⟨F,rfl⟩|rfl<;>simp[Builtin.append_,run_underlying V,t,sizeOf,typeInfo,f,P.len,n,P.cells,Addr.add_lit,s]
def Hb (b:World) (E y V F:TypeId) (c:TypeInfo) (W:m.underlying E=some (.slice F)) (p:TypeDesc) (e:m.underlying y=some p) (f:(∃G,p= .slice G)\/p= .string)
  (g:m.info? F=some c) (d h a z:Nat) (o:Array Value) (L:TypeId) (r:Nat×Nat) (i:b.heap[d]? =some (.cells o L r)) (j: ∀C,C<o.size-> ¬(r.1<=C/\C<r.2))
  (D:Nat) (P:Value) (k:List Value) (S:Src m b c.size D P k) (l: ∀n∈k,n.oneCell'=true) (q:a+D<=z) (s:h+a*c.size+k.length<=o.size):
  (Builtin.append_ #[E,y] V #[.slice (some ⟨d,h,none⟩) a z,P]).run m b= .ok (.slice (some ⟨d,h,none⟩) (a+D) z) (b.setRow d (cX o (h+a*c.size) k)):=by
 have T:=tv m d (h+a*c.size) L r k 0 o b i j (by simpa using s) l;simp only[a6x]at T;have t:(storeCells ⟨d,h+a*c.size,none⟩ k).run m b= .ok () (b.setRow d (cX o (h+a*c.size) k)):=by rw[T];rfl
 have u: ∀x:World,(underlying y).run m x= .ok p x:=λx=>run_underlying e x;rcases f with ⟨G,rfl⟩|rfl<;>simp[Builtin.append_,run_underlying W,u,sizeOf,typeInfo,g,S.len,q,S.cells,Addr.add_mid,t]
theorem pY (c:World) (y r L k:TypeId) (d:TypeInfo) (z:Value) (P:m.underlying y=some (.slice k)) (o:TypeDesc) (S:m.underlying r=some o) (T:(∃C,o= .slice C)\/o= .string)
  (V:m.info? k=some d) (W:d.zero=some z) (D:Option Addr) (a h:Nat) (x:List Value) (q:x.length=a*d.size)
  (e:(Builtin.firstCells d.size a (.slice D a h)).run m c.drew= .ok x.toArray c.drew)
  (b:Nat) (E:Value) (F:List Value) (G:Src m c d.size b E F) (f:h<a+b) (s:((a+b:Nat):Int)<=9223372036854775807) (g:(a+b)*d.bytes<=140737488355328):
  (Builtin.append_ #[y,r] L #[.slice D a h,E]).run m c=
   .ok (.slice (some ⟨c.heap.size,0,none⟩) (a+b) (grownCap c (a+b) h k))
    (c.drew.alloc (.cells (x.toArray++F.toArray++Builtin.zeroCells z.cells (grownCap c (a+b) h k -(a+b))) k)):=by
 have i: ¬(a+b<=h):=a9p;have j: ¬(9223372036854775807<((a:Int)+(b:Int))):=a9p;have l: ¬(281474976710656<Builtin.nextslicecap (a+b) h*d.bytes):=by have:=growslice_fits f g;omega
 have n: ∀p:World,(underlying r).run m p= .ok o p:=λp=>run_underlying S p;rcases T with ⟨C,rfl⟩|rfl
 all_goals
  simp[Builtin.append_,run_underlying P,n,sizeOf,typeInfo,zeroValue,V,W,G.len,i,j,l,Question.forced,G.Ha,e,newRow,grownCap];grind
end
abbrev Fr:=Nat->R
def kg (b:Fr) (c:Nat) (d:R):Fr:=λa=>if a=c then d else b a
def dm (b:Fr) (a:Option Nat) (c:R):Fr:=
 match a with
 |some a=>kg b a c
 |none=>b
def cY:Value->R
 | .slice none 0 0=> .J [] .nil
 |a=> .v a
def ofConst:Value->R
 | .agg cs=> .agg (cs.toList.map cY)
 | .tuple cs=> .aL (cs.toList.map cY)
 |a=>cY a
def ry:Value->Bool
 | .agg cs=>cs.toList.all (·.oneCell')
 | .tuple cs=>cs.toList.all (·.oneCell')
 |a=>a.oneCell'
def aT:Operand->Bool
 | .const v=>ry v
 | _=>true
def aj (a:Fr):Operand->R
 | .tmp b=>a b
 | .const v=>ofConst v
 | .global c=> .ptr c 0
 | .func d=> .bG d [] []
theorem aZ.cY (b:bl) (a:Value) (c:a.oneCell'=true):aZ b a (cY a):=by
 unfold Go.bA.cY;split
 .exact .di _ _ _ (λ_=>rfl) rfl
 .exact .v a c
def nK (a:Value):(cY a).one=true:=by unfold cY;split<;>rfl
def br.oR (c:bl) (b:Array Value) (k: ∀a∈b.toList,a.oneCell'=true):br c b (b.toList.map Go.bA.cY):=by
 refine br.dT.2 ⟨a9q,λp a o d h=> ?_⟩;rw[a5j,d]at h;obtain rfl:cY a=o:=by simpa using h
 exact aZ.cY c a (k a (a4O d))
def aZ.ofConst (d:bl) (a:Value) (c:ry a=true):aZ d a (ofConst a):=by
 cases a<;>first
  |exact aZ.cY d _ c
  |skip
 case agg b=>
  have h: ∀a∈b.toList,a.oneCell'=true:=by simp only[ry,a4W]at c;exact c
  obtain⟨k,o⟩:=br.oR d b h;refine .agg b _ (λr p=> ?_) k o;obtain⟨a,_,rfl⟩:=a5d.1 p;exact nK a
 case tuple b=>
  have h: ∀a∈b.toList,a.oneCell'=true:=by simp only[ry,a4W]at c;exact c
  obtain⟨k,o⟩:=br.oR d b h;exact .aL b _ k o
def bL (b:bl) (c:Act) (d:Fr):Prop:= ∀a,aZ b (c.tmps.getD a undef) (d a)
theorem bL.aj {c:bl}{d:Act}{h:Fr} (a:bL c d h) (b:Operand) (k:aT b=true):aZ c (d.eval b) (aj h b):=by
 cases b with
 |tmp o=>exact a o
 |const v=>exact aZ.ofConst c v k
 |global p=>exact .ptr p 0
 |func r=>exact .bG r #[] #[] [] [] rfl (λx y a=>by simp at a) rfl (λx y a=>by simp at a)
def bL.mono {b c:bl}{a:Act}{d:Fr} (h:bL b a d) (k:b.le c):bL c a d:=λo=>(h o).mono k
theorem bL.put {d:bl}{a:Act}{h:Fr} (k:bL d a h) (b:Option Nat) (r: ∀c,b=some c->c<a.tmps.size) {v:Value}{o:R} (x:aZ d v o):bL d (a.put b v) (dm h b o):=by
 cases b with
 |none=>exact k
 |some b=>
  intro c;have y:=r b rfl;by_cases p:c=b;simp_all [dm,kg,if_true,Act.put,a5u,Array.getElem?_setIfInBounds_self_of_lt]
  .simp only[dm,kg,if_neg p,Act.put];rw[a5u,a7s (a4Q p),<-a5u];exact k c
def aY (b:Bool) (c:Nat) (a:List R):R:=if b then .agg (a.take c)else a.headD (.aL [])
def U.read (a:U) (l:Nat):Option (List R):=
 match a l with
 |some (.cells cs)=>some cs
 |some (.ro cs)=>some cs
 |some (.oN _ cs)=>some cs
 |some (.fX cs)=>some cs
 | _=>none
def dK (a b:Nat) (c:List R):List R:=if a=1 then c.take b else(List.range b).map λd=> .agg ((c.drop (d*a)).take a)
def gj (d:BinOp) (a:IntKind) (c b:Int):Option Value:=
 match d with
 | .add=>some (.int a (a.wrap (c+b)))
 | .sub=>some (.int a (a.wrap (c - b)))
 | .mul=>some (.int a (a.wrap (c*b)))
 | .quo=>if b=0 then none else some (.int a (a.wrap (c.tdiv b)))
 | .rem=>if b=0 then none else some (.int a (c.tmod b))
 | .and=>some (.int a (a.wrap (BitVec.ofInt a.bits c&&&BitVec.ofInt a.bits b).toNat))
 | .or=>some (.int a (a.wrap (BitVec.ofInt a.bits c|||BitVec.ofInt a.bits b).toNat))
 | .xor=>some (.int a (a.wrap (BitVec.ofInt a.bits c^^^BitVec.ofInt a.bits b).toNat))
 | .andNot=>some (.int a (a.wrap (BitVec.ofInt a.bits c&&& ~~~(BitVec.ofInt a.bits b)).toNat))
 | .eql=>some (.bool (decide (c=b)))
 | .neq=>some (.bool (decide (c≠b)))
 | .lss=>some (.bool (decide (c<b)))
 | .leq=>some (.bool (decide (c<=b)))
 | .gtr=>some (.bool (decide (b<c)))
 | .geq=>some (.bool (decide (b<=c)))
 | _=>none
def nL (d:BinOp) (a:IntKind) (c b:Int):Option Value:=
 if b<0 then none else
 match d with
 | .shl=>some (.int a (a.wrap (c*2^(min b.toNat a.bits))))
 | .shr=>some (.int a (c.fdiv (2^(min b.toNat a.bits))))
 | _=>none
def eK:BinOp->Bool
 | .shl| .shr=>true
 | _=>false
def pZ (c:BinOp) (a b:ByteArray):Option Value:=
 match c with
 | .add=>if a.size+b.size<=9223372036854775807 then some (.string (a++b))else none
 | .eql=>some (.bool (a.toList==b.toList))
 | .neq=>some (.bool (!(a.toList==b.toList)))
 | .lss=>some (.bool (Op.bytesLess a.toList b.toList))
 | .leq=>some (.bool (Op.bytesLess a.toList b.toList||a.toList==b.toList))
 | .gtr=>some (.bool (!(Op.bytesLess a.toList b.toList||a.toList==b.toList)))
 | .geq=>some (.bool (!(Op.bytesLess a.toList b.toList)))
 | _=>none
def bn (a:BinOp):Value->Value->Option Value
 | .int b c,.int h d=>if eK a then nL a b c d else if b=h then gj a b c d else none
 | .string k,.string o=>pZ a k o
 | _,_=>none
def nM (b:UnOp):Value->Option Value
 | .bool d=>match b with| .not=>some (.bool !d)| _=>none
 | .int a c=>match b with
  | .neg=>some (.int a (a.wrap (0 - c)))
  | .xor=>some (.int a (a.wrap (BitVec.ofInt a.bits (if a.signed then -1 else a.max)^^^BitVec.ofInt a.bits c).toNat))
  | _=>none
 | _=>none
noncomputable def peq (a b:R):Bool:= @decide (a=b) (Classical.propDecidable _)
def rz (a b:R):peq a b=true↔a=b:=by simp[peq]
inductive c5 where
 |int (k:IntKind)
 |bool
 |str
 deriving DecidableEq
def c5.fit:c5->Value->Prop
 | .int a,.int b _=>a=b
 | .bool,.bool _=>True
 | .str,.string _=>True
 | _,_=>False
def c5.tw:c5->R->Prop
 | .int a,.v (.int b _)=>a=b
 | .bool,.v (.bool _)=>True
 | .str,.v (.string _)=>True
 | _,_=>False
def dB:List (Nat×c5)->List R->Prop
 | [],cs=>cs= []
 |(a,b)::c,cs=>a<=cs.length/\(∀d∈cs.take a,b.tw d)/\dB c (cs.drop a)
noncomputable def dx:List (R×R×Nat)->R->Nat->Option (Nat×R)
 | [],_,_=>none
 |a::us,b,c=>if peq b a.1 then some (c,a.2.1)else dx us b (c+1)
noncomputable def kX (a:List (R×R×Nat)) (c v:R) (b:Nat):List (R×R×Nat)×Nat:=
 match dx a c 0 with
 |some (h,_)=>(a.modify h λd=>(d.1,v,d.2.2),b)
 |none=>(a++ [(c,v,b)],b+1)
def Hc (a:List (R×R×Nat)) (b:Int):Option Nat:=a.findIdx? λc=>(c.2.2:Int)==b
def rA (b:List (Nat×c5)) (c:List (R×R×Nat)):Prop:= ∀d∈c,∃a,d.1= .agg a/\dB b a
inductive ca where
 |fb (x:Operand)
 |pick (c a b:Operand)
 |alloc (T:TypeId) (zero:List R)
 |box (T:TypeId) (x:Operand)
 |kh (T:TypeId) (x:Operand)
 |load (agg:Bool) (n:Nat) (x:Operand)
 |store (n:Nat) (x y:Operand)
 |q0 (x:Operand)
 |kY (off:Nat) (x:Operand)
 |q1 (k len:Nat) (x i:Operand)
 |dL (k:Nat) (x i:Operand)
 |q2 (agg:Bool) (k len:Nat) (x i:Operand)
 |lI (x i:Operand)
 |lJ (zero:List R) (parts:List (Nat×Nat×Operand))
 |ki (k:Nat) (xs:List Operand)
 |oS (k:Nat) (x:Operand) (aV aW:Option Operand)
 |kj (k n:Nat) (x:Operand) (aV aW:Option Operand) (ro:Bool)
 |jE (k n:Nat) (x:Operand) (aV aW:Option Operand)
 |len (x:Operand)
 |q3 (x:Operand)
 |bin (op:BinOp) (x y:Operand)
 |eqv (neg:Bool) (bI:List (Nat×c5)) (x y:Operand)
 |q4 (neg:Bool) (x y:Operand)
 |un (op:UnOp) (x:Operand)
 |iQ (k:IntKind) (x:Operand)
 |app (k bytes:Nat) (x y:Operand)
 |fY (fn:FuncId) (args:List Operand)
 |ext (x:Operand) (i:Nat)
 |lK (d:Bool) (k:IntKind) (x y:Operand)
 |q5 (x:Operand)
 |kk (k bytes:Nat) (z:List R) (x y:Operand)
 |mz (k:Nat) (x y:Operand)
 |mA (neg:Bool) (x:Operand)
 |kl (k:Nat) (xs:List Operand)
 |lL (k bytes:Nat) (x y:Operand)
 |q6 (x:Operand)
 |bG (fn:FuncId) (first cap:List Operand)
 |iR (x:Operand) (args:List Operand)
 |q7 (t:TypeId) (x:Operand)
 |mB (x:Operand)
 |km (x:Operand)
 |mC (x:Operand)
 |kn
 |lM (ok:Bool) (rs:List (Nat×c5)) (z:R) (x k:Operand)
 |lN (rs:List (Nat×c5)) (x k v:Operand)
 |mD (x:Operand)
 |lO (k:Nat) (x:Operand) (aV aW d:Option Operand)
 |mE (k:Nat) (z:List R) (x:Operand)
 |mF (k:Nat) (x y:Operand)
 |mG (k bytes:Nat) (z:List R) (x y:Operand)
 |mH (x y:Operand)
def gk (a:Program) (b:FuncId):Bool:=
 match a.funcs[b]? with
 |some fn=>fn.body.isSome&&fn.name != "runtime.NumGoroutine"
 |none=>false
structure Ctx where
 p:Program
 k:R->U->Prop
@[reducible] def Ctx.of (a:Program):Ctx:=⟨a,λ_ _=>False⟩
def ko (a:Fr) (b:List R):List (Nat×Nat×Operand)->(List R->Prop)->Prop
 | [],c=>c b
 |(off,cq,d)::h,c=>(aj a d).cells.length=cq/\off+cq<=b.length/\ko a (putAt b off (aj a d).cells) h c
def ak (a:UInt8):R:= .v (.int .u8 a.toNat)
def byteOf:R->Option UInt8
 | .v (.int .u8 a)=>if 0<=a/\a<256 then some (UInt8.ofNat a.toNat)else none
 | _=>none
def bytesOf:List R->Option (List UInt8)
 | []=>some []
 |a::b=>match byteOf a,bytesOf b with
  |some c,some aR=>some (c::aR)
  | _,_=>none
def Hd (a:UInt8):byteOf (ak a)=some a:=by have c:=a.toNat_lt;have b:(0:Int)<=(a.toNat:Int)/\(a.toNat:Int)<256:=a9p;simp[byteOf,ak,b]
def rB: ∀a:List UInt8,bytesOf (a.map ak)=some a
 | []=>rfl
 |b::a=>by simp[bytesOf,Hd,rB a]
def df (b:Fr) (a:Option Operand) (c:Nat):Option Int:=
 match a with
 |none=>some c
 |some a=>match aj b a with
  | .v (.int _ d)=>some d
  | _=>none
def vN (a:Own) (b c:Option Operand):Own:=
 match b,c with
 |none,none=>a
 | _,_=> .any
def q8 (k:Bool) (c a d h b:Nat):R:=if k=true then .bw c (a*b) (d - a) (h - a) b else .al c d h b
def bM (k:U) (a:Nat) (o:R):Option (Nat×List R):=
 match o with
 | .J c _=>if c.all (λp=>decide (p.cells.length=a))=true then some (c.length,flat c)else none
 | .al d b _ h=>match k.read d with
  |some cs=>if h=a/\b*a<=cs.length then some (b,cs.take (b*a))else none
  |none=>none
 | .bw d off b _ h=>match k.read d with
  |some cs=>if h=a/\off+b*a<=cs.length then some (b,(cs.drop off).take (b*a))else none
  |none=>none
 | _=>none
def mI (d:U) (b:Nat) (a:R):Option (Nat×List R):=
 match a with
 | .v (.string c)=>if b=1 then some (c.size,c.data.toList.map ak)else none
 |a=>bM d b a
def vO {a:Nat×List R} (b:bM f e n=some a):mI f e n=some a:=by
 unfold mI;split
 .simp[bM]at b
 .exact b
def vP (a:U) (b:Nat):Bool:=
 match a b with
 |some (.cells _)=>true
 |some (.oN _ _)=>true
 | _=>false
def q9:R->Option R
 | .al _ _ cap _=>some (.v (.int .i64 cap))
 | .J [] .nil=>some (.v (.int .i64 0))
 | _=>none
def rC (c:Fr) (h:Nat) (y:R) (k o p:Option Operand):Option R:=
 match y with
 | .al r len cap x=>match df c k 0,df c o len,df c p cap with
  |some a,some d,some b=>if x=h/\0<=a/\a<=d/\d<=b/\b<=cap then
    some (if k.isSome=true then(if a<b then .bw r (a.toNat*h) (d.toNat - a.toNat) (b.toNat - a.toNat) h else .J [] .zero)else .al r d.toNat b.toNat h)
   else none
  | _,_,_=>none
 | .bw r off len cap x=>match df c k 0,df c o len,df c p cap with
  |some a,some d,some b=>if x=h/\0<=a/\a<=d/\d<=b/\b<=cap then
    some (if a<b then .bw r (off+a.toNat*h) (d.toNat - a.toNat) (b.toNat - a.toNat) h else .J [] .zero)
   else none
  | _,_,_=>none
 | .J [] .nil=>match df c k 0,df c o 0,df c p 0 with
  |some a,some d,some b=>if a=0/\d=0/\b=0 then some (.J [] .nil)else none
  | _,_,_=>none
 | .J [] .zero=>match df c k 0,df c o 0,df c p 0 with
  |some a,some d,some b=>if a=0/\d=0/\b=0 then some (.J [] .zero)else none
  | _,_,_=>none
 | _=>none
def kp (b:Nat) (h:List R) (k:R) (a:U):Option U:=
 match k with
 | .bw c off d _ o=>match a c with
  |some (.cells cs)=>if o=b/\off+d*b<=cs.length then some (a.set c (.cells (putAt cs off (List.replicate d h).flatten)))else none
  | _=>none
 | .J [] _=>some a
 | _=>none
def kZ (a:Nat) (p r:R) (c:U):Option (R×U):=
 match bM c a r with
 |some (k,o)=>match p with
  | .bw d off b _ h=>match c d with
   |some (.cells cs)=>if h=a/\off+b*a<=cs.length then some (.v (.int .i64 (min k b:Nat)),c.set d (.cells (putAt cs off (o.take (b*a)))))else none
   | _=>none
  | .al d b _ h=>match c d with
   |some (.cells cs)=>if h=a/\b*a<=cs.length then some (.v (.int .i64 (min k b:Nat)),c.set d (.cells (putAt cs 0 (o.take (b*a)))))else none
   | _=>none
  | .J [] _=>some (.v (.int .i64 0),c)
  | _=>none
 |none=>none
def cQ:R->Option Nat
 | .al a _ _ _=>some a
 | .bw a _ _ _ _=>some a
 | _=>none
def kq (a:U) (b:Nat):Bool:=
 match a b with
 |some (.cells (_:: _))=>true
 | _=>false
def kr (d h:R) (a:U):Option R:=
 match cQ d,cQ h with
 |some b,some c=>if b≠c/\kq a b=true/\kq a c=true then some (.v (.bool false))else none
 | _,_=>none
def G (i:Ctx) (j:ca) (d:Fr) (a:U) (k:R->U->Prop):Prop:=
  match j with
  | .fb h=>k (aj d h) a
  | .pick m y z=>match aj d m with
    | .v (.bool P)=>k (if P then aj d y else aj d z) a
    | _=>False
  | .alloc _ zero=> ∀o,a o=none->k (.ptr o 0) (a.set o (.cells zero))
  | .box _ h=>0<(aj d h).cells.length/\ ∀o,a o=none->k (.ptr o 0) (a.set o (.cells (aj d h).cells))
  | .kh _ h=>0<(aj d h).cells.length/\ ∀o,a o=none->k (.ptr o 0) (a.set o (.ro (aj d h).cells))
  | .load agg b h=>match aj d h with
    | .ptr o off=>match a.read o with
      |some p=>off+b<=p.length/\k (aY agg b (p.drop off)) a
      |none=>False
    | .bV p=>b<=p.length/\k (aY agg b p) a
    | _=>False
  | .store b h C=>match aj d h with
    | .ptr o off=>match a o with
      |some (.cells p)=>(aj d C).cells.length=b/\off+b<=p.length/\k (.aL []) (a.set o (.cells (putAt p off (aj d C).cells)))
      | _=>False
    | _=>False
  | .q0 h=>match aj d h with
    | .ptr o off=>k (.ptr o off) a
    | .bV p=>k (.bV p) a
    | .bG b cB p=>k (.bG b cB p) a
    | _=>False
  | .kY off h=>match aj d h with
    | .ptr o T=>k (.ptr o (T+off)) a
    | .bV p=>k (.bV (p.drop off)) a
    | _=>False
  | .q1 c len h e=>match aj d h,aj d e with
    | .ptr o T,.v (.int _ b)=>0<=b/\b<len/\k (.ptr o (T+b.toNat*c)) a
    | .bV p,.v (.int _ b)=>0<=b/\b<len/\k (.bV (p.drop (b.toNat*c))) a
    | _,_=>False
  | .dL c h e=>match aj d h,aj d e with
    | .J xs _,.v (.int _ b)=>0<=b/\match xs[b.toNat]? with
      |some V=>V.cells.length=c/\k (.bV V.cells) a
      |none=>False
    | .bw o off len _ L,.v (.int _ b)=>L=c/\0<=b/\b<len/\k (.ptr o (off+b.toNat*c)) a
    | .al o len _ L,.v (.int _ b)=>L=c/\0<=b/\b<len/\k (.ptr o (b.toNat*c)) a
    | _,_=>False
  | .q2 agg c len h e=>match aj d h,aj d e with
    | .agg p,.v (.int _ b)=>0<=b/\b<len/\b.toNat*c+c<=p.length/\k (aY agg c (p.drop (b.toNat*c))) a
    | _,_=>False
  | .lI h e=>match aj d h,aj d e with
    | .v (.string P),.v (.int _ b)=>0<=b/\match P.data[b.toNat]? with
      |some z=>k (.v (.int .u8 z.toNat)) a
      |none=>False
    | _,_=>False
  | .lJ zero parts=>ko d zero parts λp=>k (.agg p) a
  | .ki c xs=>(∀V∈xs.map (aj d),V.cells.length=c)/\
      (if xs.length=0 then k (.J [] .zero) a else∀x,a x=none->k (.J (xs.map (aj d)) (.buf x xs.length)) (a.set x (.buf c xs.length xs.length)))
  | .oS c h aV aW=>match aj d h with
    | .J xs T=>match df d aV 0,df d aW xs.length with
      |some y,some z=>0<=y/\y<=z/\z<=xs.length/\(∀V∈xs,V.cells.length=c)/\k (.J ((xs.take z.toNat).drop y.toNat) (vN T aV aW)) a
      | _,_=>False
    | .bw o off len D L=>match df d aV 0,df d aW len with
      |some y,some z=>L=c/\0<=y/\y<=z/\z<=len/\y<len/\k (.bw o (off+y.toNat*c) (z.toNat - y.toNat) (D - y.toNat) c) a
      | _,_=>False
    | .al o len D L=>match df d aV 0,df d aW len with
      |some y,some z=>L=c/\0<=y/\y<=z/\z<=len/\(aV.isSome=true->y<len)/\k (q8 aV.isSome o y.toNat z.toNat D c) a
      | _,_=>False
    | _=>False
  | .kj c b h aV aW ro=>match aj d h with
    | .ptr o off=>match df d aV 0,df d aW b with
      |some y,some z=>0<=y/\y<=z/\z<=b/\match a.read o with
        |some p=>off+b*c<=p.length/\
          (if ro then k (.J (dK c (z.toNat - y.toNat) (p.drop (off+y.toNat*c))) .any) (a.set o (.ro p))else y<b/\k (.bw o (off+y.toNat*c) (z.toNat - y.toNat) (b - y.toNat) c) a)
        |none=>False
      | _,_=>False
    | _=>False
  | .jE c b h aV aW=>match aj d h with
    | .ptr o off=>match df d aV 0,df d aW b with
      |some y,some z=>0<=y/\y<=z/\z<=b/\match a o with
        |some (.ro p)=>off+b*c<=p.length/\k (.J (dK c (z.toNat - y.toNat) (p.drop (off+y.toNat*c))) .any) a
        | _=>False
      | _,_=>False
    | _=>False
  | .len h=>match aj d h with
    | .J xs _=>k (.v (.int .i64 xs.length)) a
    | .bw _ _ b _ _=>k (.v (.int .i64 b)) a
    | .al _ b _ _=>k (.v (.int .i64 b)) a
    | _=>False
  | .q3 h=>match aj d h with
    | .v (.string P)=>k (.v (.int .i64 P.size)) a
    | _=>False
  | .bin j h C=>match aj d h,aj d C with
    | .v y,.v z=>match bn j y z with
      |some W=>k (.v W) a
      |none=>False
    | _,_=>False
  | .eqv neg bI h C=>match aj d h,aj d C with
    | .agg p,.agg cB=>dB bI p/\dB bI cB/\k (.v (.bool (xor neg (peq (.agg p) (.agg cB))))) a
    | _,_=>False
  | .q4 neg h C=>match aj d h,aj d C with
    | .ptr _ _,.v (.pointer none)=>k (.v (.bool neg)) a
    | .bV _,.v (.pointer none)=>k (.v (.bool neg)) a
    | .v (.pointer none),.v (.pointer none)=>k (.v (.bool (!neg))) a
    | _,_=>False
  | .un j h=>match aj d h with
    | .v y=>match nM j y with
      |some W=>k (.v W) a
      |none=>False
    | _=>False
  | .iQ c h=>match aj d h with
    | .v (.int _ b)=>k (.v (.int c (c.wrap b))) a
    | _=>False
  | .app c bytes h C=>match aj d h,aj d C with
    | .J xs T,.J E _=>(∀V∈xs,V.cells.length=c)/\(∀V∈E,V.cells.length=c)/\(xs.length+E.length)*bytes<=140737488355328/\xs.length+E.length<=9223372036854775807/\
      match T with
      | .buf x m=>a x=some (.buf c xs.length m)/\ ∀g l,(g=x\/a g=none)->k (.J (xs++E) (.buf g l)) ((a.del x).set g (.buf c (xs.length+E.length) l))
      | .any=>False
      | _=>xs= []/\(if E= []then k (.J [] T) a else∀g l,a g=none->k (.J E (.buf g l)) (a.set g (.buf c E.length l)))
    | _,_=>False
  | .fY fn args=>hK i.p fn (args.map (aj d)) a k (up i.k)
  | .ext h e=>match aj d h with
    | .aL s=>match s[e]? with
      |some W=>k W a
      |none=>False
    | _=>False
  | .lK n _ h C=>match aj d h,aj d C with
    | .v (.int c y),.v (.int L z)=>c=L/\k (.v (.int c (if n then max y z else min y z))) a
    | _,_=>False
  | .q5 h=>match aj d h with
    | .J xs _=>match bytesOf xs with
      |some o=>k (.v (.string ⟨o.toArray⟩)) a
      |none=>False
    | _=>False
  | .kk c bytes f h C=>match aj d h,aj d C with
    | .v (.int _ b),.v (.int _ r)=>b=r/\0<=b/\b<=9223372036854775807/\b*bytes<=281474976710656/\ ∀x,a x=none->k (.al x b.toNat b.toNat c) (a.set x (.cells (List.replicate b.toNat f).flatten))
    | _,_=>False
  | .mz c h C=>match aj d h,aj d C with
    | .bw o off b _ L,.J E _=>L=c/\(∀V∈E,V.cells.length=c)/\match a o with
      |some (.cells p)=>off+b*c<=p.length/\k (.v (.int .i64 (min E.length b))) (a.set o (.cells (putAt p off (flat (E.take b)))))
      | _=>False
    | .al o b _ L,.J E _=>L=c/\(∀V∈E,V.cells.length=c)/\match a o with
      |some (.cells p)=>b*c<=p.length/\k (.v (.int .i64 (min E.length b))) (a.set o (.cells (putAt p 0 (flat (E.take b)))))
      | _=>False
    | _,_=>False
  | .kl c xs=>(∀V∈xs.map (aj d),V.cells.length=c)/\
      (if xs.length=0 then k (.J [] .zero) a else∀x,a x=none->k (.al x xs.length xs.length c) (a.set x (.cells (flat (xs.map (aj d))))))
  | .lL c bytes h C=>match mI a c (aj d C)with
    |some (r,E)=>match aj d h with
      | .J xs T=>xs= []/\(T= .nil\/T= .zero)/\r*bytes<=140737488355328/\r<=9223372036854775807/\
        (if r=0 then k (.J [] T) a else∀x D S,a x=none->r<=D->D<=maxLen->S.length=(D - r)*c->k (.al x r D c) (a.set x (.cells (E++S))))
      | .al o b D L=>match a o with
        |some (.cells p)=>L=c/\p.length=D*c/\(b+r)*bytes<=140737488355328/\b+r<=9223372036854775807/\
          (if b+r<=D then k (.al o (b+r) D c) (a.set o (.cells (putAt p (b*c) E)))
           else∀x F S,a x=none->b+r<=F->F<=maxLen->S.length=(F -(b+r))*c->k (.al x (b+r) F c) (a.set x (.cells (p.take (b*c)++E++S))))
        |some (.fX p)=>L=c/\p.length=D*c/\(b+r)*bytes<=140737488355328/\b+r<=9223372036854775807/\
          (if b+r<=D then k (.al o (b+r) D c) (a.set o (.fX (putAt p (b*c) E)))
           else∀x F S,a x=none->b+r<=F->F<=maxLen->S.length=(F -(b+r))*c->k (.al x (b+r) F c) (a.set x (.cells (p.take (b*c)++E++S))))
        | _=>False
      | .bw o off b D L=>match a o with
        |some (.cells p)=>L=c/\off+D*c<=p.length/\(b+r)*bytes<=140737488355328/\b+r<=9223372036854775807/\
          (if b+r<=D then k (.bw o off (b+r) D c) (a.set o (.cells (putAt p (off+b*c) E)))
           else∀x F S,a x=none->b+r<=F->F<=maxLen->S.length=(F -(b+r))*c->k (.al x (b+r) F c) (a.set x (.cells ((p.drop off).take (b*c)++E++S))))
        | _=>False
      | _=>False
    |none=>False
  | .q6 h=>match aj d h with
    | .v (.string P)=>k (.J (P.data.toList.map ak) .any) a
    | _=>False
  | .bG fn first D=>k (.bG fn (first.map (aj d)) (D.map (aj d))) a
  | .iR h args=>match aj d h with
    | .bG fn cB p=>gk i.p fn=true/\hK i.p fn (cB++args.map (aj d)++p) a k (up i.k)
    | _=>False
  | .q7 P h=>k (.iface P (aj d h)) a
  | .mB h=>match aj d h with
    | .iface P C=>up i.k (.iface P C) a
    | _=>False
  | .km h=>match aj d h with
    | .v (.string P)=> ∀o,a o=none->k (.ptr o 0) (a.set o (.it P 0))
    | _=>False
  | .mC h=>match aj d h with
    | .ptr o off=>off=0/\match a o with
      |some (.it P pos)=>if pos<P.size then k (.aL [.v (.bool true),.v (.int .i64 pos),.v (.int .i32 (Utf8.decode P pos).1)]) (a.set o (.it P (pos+(Utf8.decode P pos).2)))else k (.aL [.v (.bool false)]) a
      | _=>False
    | _=>False
  | .kn=> ∀o,a o=none->k (.gT o) (a.set o (.mp [] 0))
  | .lM ok rs f h c=>match aj d h,aj d c with
    | .gT o,.agg p=>match a o with
      |some (.mp us _)=>dB rs p/\rA rs us/\(match dx us (.agg p) 0 with
        |some (_,v)=>k (if ok then .aL [v,.v (.bool true)]else v) a
        |none=>k (if ok then .aL [f,.v (.bool false)]else f) a)
      | _=>False
    | _,_=>False
  | .lN rs h c v=>match aj d h,aj d c with
    | .gT o,.agg p=>match a o with
      |some (.mp us clock)=>dB rs p/\rA rs us/\k (.aL []) (a.set o (.mp (kX us (.agg p) (aj d v) clock).1 (kX us (.agg p) (aj d v) clock).2))
      | _=>False
    | _,_=>False
  | .mA neg h=>match aj d h with
    | .J xs T=>match T with
      | .nil=>k (.v (.bool (!neg))) a
      | .buf _ _=>k (.v (.bool neg)) a
      | _=>(xs= []->k (.v (.bool (!neg))) a)/\k (.v (.bool neg)) a
    | .al _ _ _ _=>k (.v (.bool neg)) a
    | _=>False
  | .mD h=>match q9 (aj d h)with
    |some W=>k W a
    |none=>False
  | .lO c h aV aW n=>match rC d c (aj d h) aV aW n with
    |some W=>k W a
    |none=>False
  | .mE c f h=>match kp c f (aj d h) a with
    |some q=>k (.aL []) q
    |none=>False
  | .mF c h C=>match kZ c (aj d h) (aj d C) a with
    |some (W,q)=>k W q
    |none=>False
  | .mH h C=>match kr (aj d h) (aj d C) a with
    |some W=>k W a
    |none=>False
  | .mG c bytes f h C=>match aj d h,aj d C with
    | .al o b D L,.v (.int .i64 r)=>match a.read o with
      |some p=>L=c/\p.length=D*c/\0<=r/\D<b+r.toNat/\(b+r.toNat)*bytes<=140737488355328/\b+r.toNat<=9223372036854775807/\
        ∀x F S,a x=none->b+r.toNat<=F->F<=maxLen->S.length=(F -(b+r.toNat))*c->k (.al x (b+r.toNat) F c) (a.set x (.cells (p.take (b*c)++(List.replicate r.toNat f).flatten++S)))
      |none=>False
    | .J xs T,.v (.int .i64 r)=>xs= []/\T= .nil/\0<r/\r.toNat*bytes<=140737488355328/\r<=9223372036854775807/\
        ∀x F S,a x=none->r.toNat<=F->F<=maxLen->S.length=(F - r.toNat)*c->k (.al x r.toNat F c) (a.set x (.cells ((List.replicate r.toNat f).flatten++S)))
    | _,_=>False
def vQ {c:Fr}{d h:List R->Prop} (k: ∀o,d o->h o): ∀(p:List (Nat×Nat×Operand)) (b:List R),ko c b p d->ko c b p h
 | [],b,a=>k _ a
 |(_,_,_)::r,_,a=>⟨a.1,a.2.1,vQ k r _ a.2.2⟩
variable{e3:ca}{K:Ctx}{j:Fr}
theorem Aa (c: ∀p r,s p r->a7 p r) (a:G K e3 j f s):G K e3 j f a7:=by
 cases e3<;>simp only[G]at a|-
 case fY L x=>exact a.mono c (λ_ _ a=>a)
 case mD b=>grind
 case lO=>grind
 case mE=>grind
 case mF=>grind
 case mH=>grind
 case mG d bytes y b h=>
  grind
 case iR b x=>split at a;(exact⟨a.1,a.2.mono c (λ_ _ a=>a)⟩);(exact a.elim)
 case mB=>exact a
 case km=>grind
 case kn=>exact λk o=>c _ _ (a k o)
 case lM P z y b d=>
  split at a
  case h_2=>exact a.elim
  grind
 case lN z b d v=>
  grind
 case mC b=>
  split at a
  case h_2=>exact a.elim
  grind
 case pick=>grind
 case lJ S T=>exact vQ (λ_ a=>c _ _ a) _ _ a
 case alloc=>exact λk o=>c _ _ (a k o)
 case box=>simp_all
 case kh=>simp_all
 case kk=>grind
 case lK=>grind
 case jE d C b D E=>
  (repeat' split at a)<;>first
   |exact a.elim
   |simp_all
   |exact a.2.2.2.elim
 case mz d b h=>
  grind
 case mA V b=>
  grind
 case kl=>grind
 case lL d bytes b h=>
  split at a
  case h_2=>exact a.elim
  split at a;grind;grind;grind
  .exact a.elim
 case ki=>grind
 case app d bytes b h=>
  grind
 case kj d C b D E W=>
  (repeat' split at a)<;>first
   |exact a.elim
   |simp_all
   |simp_all
   |exact a.2.2.2.elim
 case dL d b F=>
  grind
 case lI b F=>
  grind
 all_goals
  (repeat' split at a)<;>first
   |exact a.elim
   |exact c _ _ a
   |exact⟨a.1,c _ _ a.2⟩
   |exact⟨a.1,a.2.1,c _ _ a.2.2⟩
   |exact⟨a.1,a.2.1,a.2.2.1,c _ _ a.2.2.2⟩
   |exact⟨a.1,a.2.1,a.2.2.1,a.2.2.2.1,c _ _ a.2.2.2.2⟩
   |exact⟨a.1,a.2.1,a.2.2.1,a.2.2.2.1,a.2.2.2.2.1,c _ _ a.2.2.2.2.2⟩
def fc:List c5->List Value->Prop
 | [],[]=>True
 |a::bI,b::xs=>a.fit b/\fc bI xs
 | _,_=>False
def qa (b:Program) (c:TypeId->Option (List c5)):List Field->Nat->Option (List c5)
 | [],_=>some []
 |a::h,off=>
  if a.offset=off/\a.name≠ "_" then
   match c a.type,qa b c h (off+b.cellsOf a.type)with
   |some d,some k=>if b.cellsOf a.type=d.length/\(b.info? a.type).isSome then some (d++k)else none
   | _,_=>none
  else none
def flatK (a:Program):Nat->TypeId->Option (List c5)
 |0,_=>none
 |c+1,d=>
  match a.underlying d with
  |some (.int k)=>some [.int k]
  |some .bool=>some [.bool]
  |some .string=>some [.str]
  |some (.array o b)=>match flatK a c b with
   |some h=>if a.cellsOf b=h.length/\(a.info? b).isSome then some (List.replicate o h).flatten else none
   |none=>none
  |some (.struct p)=>if a.stoodInHeld d then none else qa a (flatK a c) p.toList 0
  | _=>none
theorem nN: ∀ {a:List c5}{b:List Value},fc a b->b.length=a.length
 | [],[],_=>rfl
 | _:: _,_:: _,c=>by simp[nN c.2]
def oT: ∀ {b d:List c5}{c:List Value},fc (b++d) c->fc b (c.take b.length)/\fc d (c.drop b.length)
 | [],_,_,a=>by simp[fc];simpa using a
 | _:: _,_,[],a=>by simp[fc]at a
 | _:: _,_,_:: _,a=>by
  obtain⟨h,k⟩:=a;obtain⟨o,p⟩:=oT k;exact⟨⟨h,o⟩,p⟩
variable{e2:IntKind}{b2:TypeId}
section
def qb (d:Program) (y:Nat) (h:TypeId) (a:List c5):Prop:=
 ∀(z:Nat) (b:World) (k o:Array Value) (c:Nat),fc a ((k.toList.drop c).take a.length)->fc a ((o.toList.drop c).take a.length)->
  ∃p r x,(part h k c).run d b= .ok p b/\(part h o c).run d b= .ok r b/\(Op.equalIn (z+y) h p r).run d b= .ok x b/\
   (x=true↔(k.toList.drop c).take a.length=(o.toList.drop c).take a.length)
def vR {a:TypeDesc} (c:m.underlying b2=some a) (b:World):(isAgg b2).run m b= .ok a.isRow b:=by unfold isAgg;rw[Sem.run_bind,run_underlying c b];cases a<;>rfl
def lP {b:TypeDesc} (k:m.underlying b2=some b) (o:b.isRow=true) {c:TypeInfo} (p:m.info? b2=some c) (d:Array Value) (a:Nat) (h:World):
  (part b2 d a).run m h= .ok (.agg (d.extract a (a+c.size))) h:=by
 simp[part,vR k,o,sizeOf,typeInfo,p]
def nO {a:TypeDesc} (k:m.underlying b2=some a) (o:a.isRow=false) (b:Array Value) (c:Nat) (d:Value) (p:b[c]? =some d) (h:World):
  (part b2 b c).run m h= .ok d h:=by
 simp[part,vR k,o,p]
def one_cell {d:c5} (b:fc [d] ((j8.toList.drop e).take 1)): ∃a,j8[e]? =some a/\d.fit a/\(j8.toList.drop e).take 1= [a]:=by
 cases c:(j8.toList.drop e)with
 |nil=>simp[c,fc]at b
 |cons a h=>
  refine⟨a,?_,?_,a9q⟩
  .have:(j8.toList.drop e)[0]? =some a:=by simp[c]
   simpa using this
  .rw[c]at b;exact b.1
theorem He (a b:ByteArray):a.toList=b.toList↔a=b:=by
 constructor
 .intro c;rw[ByteArray.toList_eq,ByteArray.toList_eq]at c;cases a;simp_all
 .rintro rfl;rfl
def Hf (a:m.underlying b2=some (.int e2)):qb m (e+1) b2 [.int e2]:=by
 intro h b D E F k o;obtain⟨p,r,c,x⟩:=one_cell k;obtain⟨y,z,d,C⟩:=one_cell o;rw[a6e,x,C,show h+(e+1)=(h+e)+1 by omega];cases p<;>first|exact c.elim|skip
 cases y<;>first|exact d.elim|skip
 simp only[c5.fit]at c d;subst c;subst d;exact⟨_,_,_,nO a rfl _ _ _ r b,nO a rfl _ _ _ z b,run_equalIn_int b _ b2 _ _ _ _ a,a9q⟩
def Hg (a:m.underlying b2=some .bool):qb m (e+1) b2 [.bool]:=by
 intro c b D E F d h;obtain⟨k,o,p,r⟩:=one_cell d;obtain⟨x,y,z,C⟩:=one_cell h;rw[a6e,r,C,show c+(e+1)=(c+e)+1 by omega];cases k<;>first|exact p.elim|skip
 cases x<;>first|exact z.elim|skip
 exact⟨_,_,_,nO a rfl _ _ _ o b,nO a rfl _ _ _ y b,run_equalIn_bool' b _ b2 _ _ a,a9q⟩
def Hh (a:m.underlying b2=some .string):qb m (e+1) b2 [.str]:=by
 intro c b D E F d h;obtain⟨k,o,p,r⟩:=one_cell d;obtain⟨x,y,z,C⟩:=one_cell h;rw[a6e,r,C,show c+(e+1)=(c+e)+1 by omega];cases k<;>first|exact p.elim|skip
 cases x<;>first|exact z.elim|skip
 exact⟨_,_,_,nO a rfl _ _ _ o b,nO a rfl _ _ _ y b,run_equalIn_string b _ b2 _ _ a,by rw[beq_iff_eq,He];simp⟩
theorem Ab {y:Nat}{o:TypeId}{a:List c5} (z:qb m y o a) (C:m.cellsOf o=a.length) (x:Nat) (p:World) (d h:Array Value): ∀(b c:Nat),
  fc (List.replicate b a).flatten ((d.toList.drop (c*a.length)).take (List.replicate b a).flatten.length)->fc (List.replicate b a).flatten ((h.toList.drop (c*a.length)).take (List.replicate b a).flatten.length)->
  ∃k,(Op.eqItems (x+y) o (m.cellsOf o) d h (List.range' c b)).run m p= .ok k p/\
   (k=true↔(d.toList.drop (c*a.length)).take (List.replicate b a).flatten.length=(h.toList.drop (c*a.length)).take (List.replicate b a).flatten.length)
 |0,c,_,_=>⟨true,by simp[Op.eqItems],a9q⟩
 |b+1,c,D,E=>by
  simp only[a6O,a6A]at D E|-;obtain⟨F,G⟩:=oT D;obtain⟨L,P⟩:=oT E;have W:min a.length (a++(List.replicate b a).flatten).length=a.length:=a9q;have e:(a++(List.replicate b a).flatten).length - a.length=(List.replicate b a).flatten.length:=a9q;rw[a5Y,W]at F L;rw[a6f,a5B,e,show c*a.length+a.length=(c+1)*a.length by rw[a5J,a7g]]at G P;obtain⟨l,n,k,S,T,f,g⟩:=z x p d h (c*a.length) F L;obtain⟨i,q,j⟩:=Ab z C x p d h b (c+1) G P;have V: ∀r:List Value,r.take (a++(List.replicate b a).flatten).length=r.take a.length++(r.drop a.length).take (List.replicate b a).flatten.length:=λr=>by
   rw[a4J,a9b]
  rw[List.range'_succ];rw[<-C]at S T;simp only[Op.eqItems,Sem.run_bind,S,T,f,Result.andThen_ok];have s:((d.toList.drop (c*a.length)).take (a++(List.replicate b a).flatten).length=(h.toList.drop (c*a.length)).take (a++(List.replicate b a).flatten).length)↔(k=true/\i=true):=by rw[V,V,a5B,a5B,show c*a.length+a.length=(c+1)*a.length by rw[a5J,a7g],g,j];grind[List.append_inj,nN]
  cases k;simp_all;simp_all
theorem Ac {C:Nat}{D:TypeId->Option (List c5)} (E: ∀o a,D o=some a->m.cellsOf o=a.length->(m.info? o).isSome->qb m C o a) (y:Nat) (p:World) (h k:Array Value): ∀(r:List Field) (b:Nat) (d:List c5),
  qa m D r b=some d->fc d ((h.toList.drop b).take d.length)->fc d ((k.toList.drop b).take d.length)->
  ∃c,(Op.eqFields (y+C) h k r).run m p= .ok c p/\(c=true↔(h.toList.drop b).take d.length=(k.toList.drop b).take d.length)
 | [],b,d,hk,_,_=>by
  simp_all [qa,Op.eqFields]
 |s::r,b,d,hk,e,f=>by
  simp only[qa]at hk;split at hk
  case isFalse=>cases hk
  rename_i F;split at hk
  case h_2=>cases hk
  rename_i a c g i;split at hk
  case isFalse=>cases hk
  rename_i z;obtain rfl:=a4G hk;obtain⟨G,L⟩:=oT e;obtain⟨P,S⟩:=oT f;have j:min a.length (a++c).length=a.length:=a9q;have l:(a++c).length - a.length=c.length:=a9q;rw[a5Y,j]at G P;rw[a6f,a5B,l,<-z.1]at L S;obtain⟨t,u,T,V,W,n,v⟩:=E _ _ g z.1 z.2 y p h k b G P;obtain⟨q,w,A⟩:=Ac E y p h k r _ _ i L S;have B: ∀x:List Value,x.take (a++c).length=x.take a.length++(x.drop a.length).take c.length:=λx=>by
   rw[a4J,a9b]
  rw[<-F.1]at V W;simp only[Op.eqFields,if_pos F.2,Sem.run_bind,V,W,n,Result.andThen_ok];have H:((h.toList.drop b).take (a++c).length=(k.toList.drop b).take (a++c).length)↔(T=true/\q=true):=by grind[List.drop_drop,List.append_inj,nN]
  cases T;simp_all;simp_all
def rD (b:Array Value) (a c:Nat):(b.extract a (a+c)).toList=(b.toList.drop a).take c:=by simp
theorem tx: ∀(p:Nat) (k:TypeId) (b:List c5),flatK m p k=some b->m.cellsOf k=b.length->(m.info? k).isSome->qb m p k b
 |0,k,b,a,_,_=>by simp[flatK]at a
 |p+1,k,b,a,V,W=>by
  simp only[flatK]at a;cases hu:m.underlying k with
  |none=>simp[hu]at a
  |some desc=>
   simp only[hu]at a;cases desc<;>simp only[]at a<;>first
    |(cases a;done)
    |skip
   case int s=>obtain rfl:=a4G a;exact Hf hu
   case bool=>obtain rfl:=a4G a;exact Hg hu
   case string=>obtain rfl:=a4G a;exact Hh hu
   case array e g=>
    split at a
    case h_2=>cases a
    rename_i F i;split at a
    case isFalse=>cases a
    rename_i G;obtain rfl:=a4G a;have ih:=tx p g F i G.1 G.2;obtain⟨r,x⟩:=a5A.1 W;obtain⟨t,j⟩:=a5A.1 G.2;have L:r.size=(List.replicate e F).flatten.length:=by simpa[Program.cellsOf,x] using V
    intro y o d h c C D;have E:=Ab ih G.1 y o (d.extract c (c+r.size)) (h.extract c (c+r.size)) e 0;simp only[a8g,a6U,rD,L]at E;rw[a5Y,a6Y,a5Y,a6Y]at E;obtain⟨z,f,P⟩:=E C D;refine⟨_,_,z,lP hu rfl x d c o,lP hu rfl x h c o,?_,P⟩;rw[show y+(p+1)=(y+p)+1 by omega,run_equalIn_array o (y+p) _ _ hu j,List.range_eq_range',L];exact f
   case struct S=>
    split at a
    case isTrue=>cases a
    rename_i u;obtain⟨r,x⟩:=a5A.1 W;have L:r.size=b.length:=by simpa[Program.cellsOf,x] using V
    have v:m.fieldsOf k=S:=by simp[Program.fieldsOf,hu]
    intro y o d h c C D;have E: ∀(d h:Array Value),fc b ((d.toList.drop 0).take b.length)->fc b ((h.toList.drop 0).take b.length)->
      ∃z,(Op.eqFields (y+p) d h S.toList).run m o= .ok z o/\(z=true↔(d.toList.drop 0).take b.length=(h.toList.drop 0).take b.length):=λd h C D=>
     Ac (λk F l n q=>tx p k F l n q) y o d h S.toList 0 b a C D
    have T:=E (d.extract c (c+r.size)) (h.extract c (c+r.size));simp only[a6U,rD,L]at T;rw[a5Y,a6Y,a5Y,a6Y]at T;obtain⟨z,f,P⟩:=T C D;refine⟨_,_,z,lP hu rfl x d c o,lP hu rfl x h c o,?_,P⟩;grind[run_equalIn_struct]
end
def jG (b:List (Nat×c5)):List c5:=b.flatMap λa=>List.replicate a.1 a.2
def mJ:List c5->List (Nat×c5)
 | []=> []
 |a::bI=>match mJ bI with
  |(c,b)::d=>if a=b then(c+1,b)::d else(1,a)::(c,b)::d
  | []=> [(1,a)]
theorem tz: ∀a:List c5,jG (mJ a)=a
 | []=>rfl
 |b::a=>by
  have ih:=tz a;grind[mJ,jG]
theorem oU {P:bl}: ∀(C:List (Nat×c5)) (a:List R) (b:List Value),dB C a->b.length=a.length->(∀(c:Nat) (d:Value) (h:R),b[c]? =some d->a[c]? =some h->aZ P d h)->
  fc (jG C) b/\a=b.map R.v
 | [],a,b,p,k,_=>by
  simp only[dB]at p;subst p;have:b= []:=a4N (by simpa using k);subst this;exact⟨trivial,rfl⟩
 |(r,x)::C,a,b,p,k,D=>by
  obtain⟨V,W,e⟩:=p;obtain⟨l,m⟩:=oU C (a.drop r) (b.drop r) e (by simp[k]) (λc d h E F=>D (r+c) d h (by simpa using E) (by simpa using F));have f: ∀(y:Nat) (a:List R) (b:List Value),b.length=a.length->a.length=y->(∀o∈a,x.tw o)->(∀(c:Nat) (d:Value) (h:R),b[c]? =some d->a[c]? =some h->aZ P d h)->
    (∀G L,fc L G->fc (List.replicate y x++L) (b++G))/\a=b.map R.v:=by
   intro y
   induction y with
   |zero=>grind
   |succ y ih=>
    intro a b k hm S D
    match a,b,k,hm with
    |o::a,v::b,k,hm=>
     obtain⟨g,i⟩:=ih a b (by simpa using k) (by simpa using hm) (λo z=>S o (a6j _ z)) (λc d h E F=>D (c+1) d h (by simpa using E) (by simpa using F));have z:=S o a6t;have j:=D 0 v o rfl rfl;have T:o= .v v/\x.fit v:=by
      cases o<;>first
       |(cases x<;>exact z.elim)
       |skip
      cases j;refine⟨rfl,?_⟩;cases x<;>cases v<;>first|exact z|exact z.elim
     refine⟨λG L p=>⟨T.2,g G L p⟩,by rw[T.1,i];rfl⟩
  obtain⟨n,q⟩:=f r (a.take r) (b.take r) (by simp[k]) (by simp[V]) W (λc d h E F=>by
   grind)
  grind[jG,List.take_append_drop]
def bR (y:Program) (z:R->U->Prop) (o:Oper) (h:Act) (k:World) (p:bl) (r:U) (C:R->U->Prop):Prop:=
 ∀x:Exit->Act->World->Prop,(∀v a b c d,Step p r k b c d->aZ b v a->up z a c->x (.panic [{v,recovered:=false}]) h d)->o.wp y h k (λD d=> ∃v b c a,D=h.put o.dst v/\Step p r k b c d/\aZ b v a/\C a c) x
variable{N e5 h5:Own}
section
variable  {o:Oper}{a:Act}   
def bR.value {v:Value}{b:bl} (c:(execOp a.eval o).run m l= .ok (.value v) h8) (d:Step u f l b t h8) (h:aZ b v n) (k:a7 n t):bR m s o a l u f a7:=by intro p _;unfold Oper.wp;rw[c];exact⟨v,b,t,n,rfl,d,h,k⟩
def bR.same {v:Value} (b:Holds u f l) (c:(execOp a.eval o).run m l= .ok (.value v) l) (d:aZ u v n) (h:a7 n f):bR m s o a l u f a7:=
 .value c (.refl b) d h
def bR.skip {b:bl} (c:(execOp a.eval o).run m l= .ok .skip h8) (d:Step u f l b t h8) (h:a7 (.aL []) t):bR m s o a l u f a7:=by intro k _;unfold Oper.wp;rw[c];exact⟨undef,b,t,.aL [],rfl,d,aZ.undef _,h⟩
def aZ.dU {b:Value} (c:aZ u e4 (.v b)):e4=b:=by cases c;rfl
def aZ.mK (b:aZ u e4 (.ptr e i)):e4= .pointer (some ⟨e,i,none⟩):=by cases b;rfl
def Ad (c:Array Value) (b d:Nat):(c.extract b (b+d)).toList=(c.toList.drop b).take d:=rD c b d
theorem aZ.aY {k:Array Value}{c:List R} (p:br u k c) (r: ∀h∈c,h.one=true) (b d:Nat) (x:b+d<=c.length):aZ u (.agg (k.extract b (b+d))) (aY true d (c.drop b)):=by have:=p.sub b d x;exact .agg _ _ (λh y=>r h (a5n (a4Z y))) this.1 this.2
theorem aZ.vS (c:br u j8 g) (b:Nat) (k:b+1<=g.length):aZ u (j8.getD b Go.undef) (bA.aY false 1 (g.drop b)):=by
 have d:b<g.length:=a9p;have:=c.2 b g[b] (a4H d);have h:bA.aY false 1 (g.drop b)=g[b]:=by unfold bA.aY;simp_all
 rw[h];exact this
def Holds.read {l:Nat}{y:List R} (x:Holds u f h8) (c:f.read l=some y):(∀r∈y,r.one=true)/\ ∃b T z,h8.heap[l]? =some (.cells b T z)/\br u b y:=by
 unfold U.read at c;split at c
 .rename_i r d;obtain rfl:=a4G c;obtain⟨h,b,T,k,p,_⟩:=x.dS l _ d;exact⟨h,b,T,_,k,p⟩
 .rename_i r d;obtain rfl:=a4G c;obtain⟨h,b,T,z,k,p,_⟩:=x.dS l _ d;exact⟨h,b,T,z,k,p⟩
 .rename_i T r d;obtain rfl:=a4G c;obtain⟨h,b,k,p,_⟩:=x.dS l _ d;exact⟨h,b,T,_,k,p⟩
 .rename_i r d;obtain rfl:=a4G c;obtain⟨h,b,T,k,p,_⟩:=x.dS l _ d;exact⟨h,b,T,_,k,p⟩
 .cases c
def vT (b:World) (c:TypeId) (d:TypeDesc) (h:Addr) (k:Value) (p:m.underlying c=some d) (r:d.isRow=false) (x:b.cell? h=some k):(loadVar c h).run m b= .ok k b:=by simp[loadVar,vR p,r,x]
theorem Hi (x:TypeId) (E:Operand) (W:o.op= .load x E) (k:TypeDesc) (C:m.underlying x=some k) (c:Nat) (B:(m.info? x).map (·.size)=some c) (H:k.isRow=false->c=1)
  (M:aT E=true) (N:bL u a j) (D:Holds u f l) (y:G ⟨m,s⟩ (.load k.isRow c E) j f a7):bR m s o a l u f a7:=by
 have F:=N.aj E M;simp only[G]at y;split at y
 .rename_i L b n;rw[n]at F;have I:=F.mK;split at y
  case h_2=>exact y.elim
  rename_i P O;obtain⟨e,p⟩:=y;obtain⟨q,h,T,k1,Q,g⟩:=D.read O;cases d:k.isRow with
  |true=>
   rw[d]at p;have t:l.rangeAt L b ((h.toList.drop b).take c):=by intro r v w;grind[cell_of_row]
   have X:((h.toList.drop b).take c).length=c:=by have:=g.1;simp;omega
   have z:=run_loadAt_mid (P:=m) l L b x ((h.toList.drop b).take c) k t C d (by rw[X];exact B);refine .same D (v:= .agg ((h.toList.drop b).take c).toArray) ?_ ?_ p
   .simp[execOp,W,I,z]
   .have:=aZ.aY g q b c e;rw[show((h.toList.drop b).take c).toArray=h.extract b (b+c) by rw[<-Ad]];exact this
  |false=>
   rw[d]at p;obtain rfl:=H d;have Y:b<h.size:=by have:=g.1;omega
   have S:l.cell? ⟨L,b,none⟩=some (h.getD b undef):=by rw[cell_of_row l L b h T _ Q];simp[Y]
   have z:=vT (m:=m) l x k ⟨L,b,none⟩ _ C d S;refine .same D (v:=h.getD b undef) ?_ (aZ.vS g b e) p;simp[execOp,W,I,Instr.loadAt,Instr.sureAddr,z]
 .rename_i P n;rw[n]at F;obtain⟨e,p⟩:=y;generalize K:a.eval E=k2 at F;cases F with
  |bV i b V P q hH Z=>
   have j9: ∀r,r<P.length->l.cell? ⟨i,b+r,none⟩=some (V r):=λr w=>D.ro _ _ _ (hH r w);cases d:k.isRow with
   |true=>
    rw[d]at p;have t:l.rangeAt i b ((List.range c).map V):=by intro r v w;grind
    have z:=run_loadAt_mid (P:=m) l i b x ((List.range c).map V) k t C d (by simp[B]);refine .same D (v:= .agg ((List.range c).map V).toArray) ?_ ?_ p
    .simp only[execOp,W,K,Sem.run_bind,z];rfl
    .refine .agg _ _ (λA S=>q A (a4Z S)) a9r (λr k3 C=> ?_);have k0:r<c:=by grind
     rw[a5K k0]at C;simp_all
   |false=>
    rw[d]at p;obtain rfl:=H d;have S:=j9 0 a9p;have z:=vT (m:=m) l x k ⟨i,b,none⟩ _ C d S;refine .same D (v:=V 0) ?_ ?_ p
    .simp[execOp,W,K,Instr.loadAt,Instr.sureAddr,z]
    .match P,e with
     |A::P,_=>exact Z 0 A rfl
 .exact y.elim
theorem Hj (k:TypeId) (c b:Array Value) (d:Nat) {h:Nat×Nat} (x:l.heap[e]? =some (.cells c b2 h)) (y: ∀p,p<c.size-> ¬(h.1<=p/\p<h.2)) (z:d+b.size<=c.size) (C: ∀D∈b.toList,D.oneCell'=true) (v:Value) (G:v.cells=b)
  (E:(m.info? k).map (·.size)=some b.size):(Instr.storeAt k (.pointer (some ⟨e,d,none⟩)) v).run m l= .ok () (l.setRow e (cX c d b.toList)):=by
 have r:=tv m e d b2 h b.toList 0 c l x y (by simpa using z) C;simp only[a6x]at r;have L:(storeCells ⟨e,d,none⟩ b.toList).run m l= .ok () (l.setRow e (cX c d b.toList)):=by rw[r];rfl
 cases F:m.info? k with
 |none=>simp[F]at E
 |some P=>simp_all [Instr.storeAt,Instr.sureAddr,storeVar,sizeOf,typeInfo]
def Hk (k:TypeId) (d b:Operand) (C:o.op= .store k d b) (p:Nat) (D:(m.info? k).map (·.size)=some p) (v:0<p) (E:aT d=true) (F:aT b=true) (r:bL u a j) (L:Holds u f l)
  (c:G ⟨m,s⟩ (.store p d b) j f a7):bR m s o a l u f a7:=by
 have x:=r.aj d E;have P:=r.aj b F;simp only[G]at c;split at c
 case h_2=>exact c.elim
 rename_i w y S;rw[S]at x;split at c
 .rename_i A V;obtain⟨W,B,e⟩:=c;have g:=x.mK;obtain⟨h,z⟩:=P.cells a9p;obtain⟨i,T,n,H,q⟩:=Step.store L V y (aj j b).cells (a.eval b).cells h z a9p;refine .skip ?_ q e;have t:=Hj (m:=m) k i (a.eval b).cells y n (vM _) (by have:=h.1;omega) (h.nI z) (a.eval b) rfl (by rw[D,h.1,W]);simp only[execOp,C,g,Sem.run_bind,t];rfl
 .exact c.elim
def Hl (c:TypeId) (p:o.op= .alloc c) (h:TypeInfo) (r:m.info? c=some h) (b:Value) (x:h.zero=some b) (y: ∀d∈b.cells.toList,d.oneCell'=true) (k:Holds u f l)
  (z:G ⟨m,s⟩ (.alloc c (b.cells.toList.map cY)) j f a7):bR m s o a l u f a7:=by
 refine .value (v:= .pointer (some ⟨l.heap.size,0,none⟩)) (h8:=l.alloc (.cells b.cells c)) ?_ (Step.new k b.cells c (b.cells.toList.map cY) (λD C=>by obtain⟨d,_,rfl⟩:=a5d.1 C;exact nK d) (br.oR u _ y))
  (.ptr _ _) (z _ k.en)
 simp[execOp,p,Instr.alloc,zeroValue,typeInfo,r,x,newVar,newRow]
theorem Hm (c:TypeId) (b:Operand) (k:o.op= .box c b) (p:aT b=true) (r:bL u a j) (d:Holds u f l) (h:G ⟨m,s⟩ (.box c b) j f a7):bR m s o a l u f a7:=by obtain⟨x,y⟩:=(r.aj b p).cells h.1;refine .value (v:= .pointer (some ⟨l.heap.size,0,none⟩)) (h8:=l.alloc (.cells (a.eval b).cells c)) ?_ (Step.new d _ c _ y x) (.ptr _ _) (h.2 _ d.en);simp[execOp,k,Instr.box,newVar,newRow]
def Ae (b:Operand) (c:o.op= .move b\/o.op= .assign b) (d:aT b=true) (h:bL u a j) (k:Holds u f l) (p:G ⟨m,s⟩ (.fb b) j f a7):bR m s o a l u f a7:=by refine .same k ?_ (h.aj b d) p;rcases c with c|c<;>simp[execOp,c]
theorem Hn (c d h:Operand) (p:o.op= .pick c d h) (z:aT c=true) (C:aT d=true) (D:aT h=true) (k:bL u a j) (r:Holds u f l) (b:G ⟨m,s⟩ (.pick c d h) j f a7):bR m s o a l u f a7:=by
 have x:=k.aj c z;simp only[G]at b;split at b
 case h_2=>exact b.elim
 rename_i E F;rw[F]at x;have y:=x.dU;cases E
 .exact .same r (by simp[execOp,p,y,asBool]) (k.aj h D) (by simpa using b)
 .exact .same r (by simp[execOp,p,y,asBool]) (k.aj d C) (by simpa using b)
def Ho (c:Operand) (k:o.op= .nilCheck c) (y:aT c=true) (z:bL u a j) (p:Holds u f l) (d:G ⟨m,s⟩ (.q0 c) j f a7):bR m s o a l u f a7:=by
 have b:=z.aj c y;simp only[G]at d;split at d
 .rename_i D E h;rw[h]at b;have:=b.mK;exact .same p (by simp[execOp,k,this]) (.ptr _ _) d
 .rename_i C h;rw[h]at b;generalize r:a.eval c=x at b;refine .same p (v:=x) ?_ b d;cases b;simp[execOp,k,r]
 .rename_i F C h;rw[h]at b;generalize r:a.eval c=x at b;refine .same p (v:=x) ?_ b d;cases b;simp[execOp,k,r]
 .exact d.elim
theorem Af (k:aZ u e4 (.bV g)) (d:Nat): ∃b c,e4= .pointer (some ⟨b,c,none⟩)/\aZ u (.pointer (some ⟨b,c+d,none⟩)) (.bV (g.drop d)):=by
 cases k with
 |bV b c p g r hH z=>refine⟨b,c,rfl,.bV b (c+d) (λh=>p (d+h)) _ (λx y=>r x (a5n y)) (λh C=> ?_) (λh D E=> ?_)⟩;grind;grind
theorem hi (b c d:Nat):(⟨b,c,none⟩:Addr).add d=⟨b,c+d,none⟩:=Addr.add_mid b c d
theorem Hp (r:TypeId) (h:Operand) (x:Nat) (C:o.op= .fieldAddr r h x) (D:Array Field) (e:m.underlying r=some (.struct D)) (b:Field) (g:D[x]? =some b) (E:Nat) (P:(m.info? b.type).map (·.size)=some E) (i:E≠0)
  (S:aT h=true) (T:bL u a j) (F:Holds u f l) (c:G ⟨m,s⟩ (.kY b.offset h) j f a7):bR m s o a l u f a7:=by
 have k:=T.aj h S;have L: ∀p d:Nat,(Instr.fieldAt r (.pointer (some ⟨p,d,none⟩)) x).run m l= .ok (.pointer (some ⟨p,d+b.offset,none⟩)) l:=by
  intro p d;cases V:m.info? b.type with
  |none=>simp[V]at P
  |some ii=>simp_all [Instr.fieldAt,run_underlying,Instr.sureAddr,fieldPlace,sizeOf,typeInfo,hi]
 simp only[G]at c;split at c
 .rename_i n d y;rw[y]at k;have z:=k.mK;exact .same F (by simp only[execOp,C,z,Sem.run_bind,L];rfl) (.ptr _ _) c
 .rename_i q y;rw[y]at k;obtain⟨p,d,z,W⟩:=Af k b.offset;exact .same F (by simp only[execOp,C,z,Sem.run_bind,L];rfl) W c
 .exact c.elim
theorem Hq (C:TypeId) (k p:Operand) (A:o.op= .indexAddr C k p) (D:Nat) (E:TypeId) (W:m.underlying C=some (.array D E)) (c:Nat) (S:(m.info? E).map (·.size)=some c)
  (e:aT k=true) (g:aT p=true) (T:bL u a j) (V:Holds u f l) (d:G ⟨m,s⟩ (.q1 c D k p) j f a7):bR m s o a l u f a7:=by
 have r:=T.aj k e;have x:=T.aj p g;have B: ∀(y h:Nat) (z:IntKind) (b:Int),0<=b->b<D->(Instr.indexAt C (.pointer (some ⟨y,h,none⟩)) (.int z b)).run m l= .ok (.pointer (some ⟨y,h+b.toNat*c,none⟩)) l:=by
  intro y h z b i n;cases F:m.info? E with
  |none=>simp[F]at S
  |some ii=>
   have q:ii.size=c:=by simpa[F] using S
   simp[Instr.indexAt,asIntOf,run_underlying W,Instr.sureAddr,i,n,sizeOf,typeInfo,F,q,hi]
 simp only[G]at d;split at d
 .rename_i H h z b L P;rw[L]at r;rw[P]at x;have t:=r.mK;have v:=x.dU;exact .same V (by simp_all [execOp,Sem.run_bind]) (.ptr _ _) d.2.2
 .rename_i I z b L P;rw[L]at r;rw[P]at x;have v:=x.dU;obtain⟨y,h,t,w⟩:=Af r (b.toNat*c);exact .same V (by simp_all [execOp,Sem.run_bind]) w d.2.2
 .exact d.elim
theorem dg {c:Nat}: ∀ {xs:List R},(∀b∈xs,b.cells.length=c)->(flat xs).length=xs.length*c
 | [],_=>by simp[flat]
 |h::xs,d=>by
  have:=dg (xs:=xs) (λb k=>d b (a6j _ k));have p:=d h a6t;simp only[flat,a5l,a4J,a4M,a5J,a7g]at this|-;omega
theorem fZ {c:Nat}: ∀ {xs:List R} (b:Nat),(∀d∈xs,d.cells.length=c)->(flat xs).drop (b*c)=flat (xs.drop b)/\(flat xs).take (b*c)=flat (xs.take b)
 |xs,0,_=>by simp[flat]
 | [],b+1,_=>by simp[flat]
 |h::xs,b+1,k=>by
  obtain⟨r,x⟩:=fZ (xs:=xs) b (λd p=>k d (a6j _ p));have y:=k h a6t;have d:(b+1)*c=h.cells.length+b*c:=by grind
  grind[flat,List.drop_append,List.drop_of_length_le,Nat.add_sub_cancel_left]
def aZ.vU (x:aZ u e4 (.J g N)) (y:g≠ []): ∃(c d h k:Nat) (p:Nat->Value),e4= .slice (some ⟨c,d,none⟩) g.length h/\0<k/\g.length<=h/\(∀z∈g,z.cells.length=k)/\(∀C∈flat g,C.one=true)/\
  (∀b,b<g.length*k->u c (d+b)=some (p b))/\(∀b r,(flat g)[b]? =some r->aZ u (p b) r)/\N.ok c d h:=by
 cases x with
 |di=>exact absurd rfl y
 |J c d len h k p g N hk hlen D E F hH G L=>subst hlen;exact⟨c,d,h,k,p,rfl,hk,D,E,F,hH,G,L⟩
theorem Hr (g:TypeId) (y T:Operand) (O:o.op= .indexAddr g y T) (i:TypeId) (V:m.underlying g=some (.slice i)) (c:Nat) (A:(m.info? i).map (·.size)=some c)
  (Q:aT y=true) (X:aT T=true) (B:bL u a j) (n:Holds u f l) (d:G ⟨m,s⟩ (.dL c y T) j f a7):bR m s o a l u f a7:=by
 have k:=B.aj y Q;have z:=B.aj T X;have Y: ∀(C p len r:Nat) (D:IntKind) (b:Int),0<=b->b<len->(Instr.indexAt g (.slice (some ⟨C,p,none⟩) len r) (.int D b)).run m l= .ok (.pointer (some ⟨C,p+b.toNat*c,none⟩)) l:=by
  intro C p len r D b F W;cases q:m.info? i with
  |none=>simp[q]at A
  |some ii=>
   have Z:ii.size=c:=by simpa[q] using A
   simp[Instr.indexAt,asIntOf,run_underlying V,F,W,sizeOf,typeInfo,q,Z,hi]
 simp only[G]at d;split at d
 .rename_i E k7 D b L P;rw[L]at k;rw[P]at z;have t:=z.dU;obtain⟨F,d⟩:=d;split at d
  case h_2=>exact d.elim
  rename_i el H;obtain⟨j9,S⟩:=d;have k8:b.toNat<E.length:=(a4P.1 H).1;obtain⟨C,p,r,v,k0,k9,l0,I,w,l1,k1,k2,_⟩:=k.vU (by grind);have k3:el∈E:=a4O H;obtain rfl:c=v:=by rw[<-j9];exact w el k3
  have l2:b<(E.length:Int):=a9p;refine .same n (v:= .pointer (some ⟨C,p+b.toNat*c,none⟩)) (by simp_all [execOp,Sem.run_bind]) ?_ S;have K: ∀h x,el.cells[h]? =some x->(flat E)[b.toNat*c+h]? =some x:=λh x V=>by
   have l3:=(fZ (xs:=E) b.toNat w).1;have:((flat E).drop (b.toNat*c))[h]? =some x:=by grind[List.drop_eq_getElem_cons,List.getElem?_eq_some_iff,flat,List.getElem?_append_left]
   simpa using this
  refine .bV C _ (λh=>k0 (b.toNat*c+h)) _ (λl4 l5=> ?_) (λh k4=> ?_) (λh x V=>k2 _ x (K h x V));grind[List.getElem?_of_mem,List.mem_of_getElem?]
  .rw[a7W];refine k1 _ ?_;have:=(a4P.1 (K h _ (a4H k4))).1;rwa[dg w]at this
 .rename_i e p len l6 v D b L P;rw[L]at k;rw[P]at z;have t:=z.dU;obtain⟨rfl,F,W,S⟩:=d;generalize M:a.eval y=k5 at k;cases k with
  |bw e p len r c k6 I=>exact .same n (by simp_all [execOp,Sem.run_bind]) (.ptr _ _) S
 .rename_i e len r v D b L P;rw[L]at k;rw[P]at z;have t:=z.dU;obtain⟨rfl,F,W,S⟩:=d;generalize M:a.eval y=k5 at k;cases k with
  |al e len r c k6 I=>have N:=Y e 0 len r D b F W;rw[a5e]at N;exact .same n (by simp only[execOp,O,M,t,Sem.run_bind,N];rfl) (.ptr _ _) S
 .exact d.elim
end
section
variable  {o:Oper}{a:Act}   
theorem Hs (k:br u j8 g) (G: ∀y∈g,y.one=true) (d:TypeId) (h:TypeDesc) (z:m.underlying d=some h) (c:Nat) (p:(m.info? d).map (·.size)=some c) (C:h.isRow=false->c=1)
  (b:Nat) (D:b+c<=g.length): ∃v,(∀l,(part d j8 b).run m l= .ok v l)/\aZ u v (aY h.isRow c (g.drop b)):=by
 cases r:m.info? d with
 |none=>simp[r]at p
 |some E=>
  have L:E.size=c:=by simpa[r] using p
  cases x:h.isRow with
  |true=>simp_all [lP,aZ.aY]
  |false=>
   obtain rfl:=C x;have F:b<j8.size:=by have:=k.1;omega
   exact⟨_,λl=>nO z x j8 b (j8.getD b undef) (by simp[F]) l,aZ.vS k b D⟩
theorem Ht (y:TypeId) (c h:Operand) (B:o.op= .index y c h) (z:Nat) (d:TypeId) (H:m.underlying y=some (.array z d)) (k:TypeDesc) (F:m.underlying d=some k) (b:Nat)
  (r:(m.info? d).map (·.size)=some b) (L:k.isRow=false->b=1) (P:aT c=true) (S:aT h=true) (C:bL u a j) (T:Holds u f l) (p:G ⟨m,s⟩ (.q2 k.isRow b z c h) j f a7):bR m s o a l u f a7:=by
 have x:=C.aj c P;have D:=C.aj h S;simp only[G]at p;split at p
 case h_2=>exact p.elim
 rename_i V I W e g;rw[e]at x;rw[g]at D;have K:=D.dU;generalize M:a.eval c=N at x;cases x with
 |agg O V i n q=>
  obtain⟨Q,hm,t,w⟩:=p;obtain⟨v,X,A⟩:=Hs ⟨n,q⟩ i d k F b r L (W.toNat*b) t;cases E:m.info? d with
  |none=>simp[E]at r
  |some ii=>
   have Y:ii.size=b:=by simpa[E] using r
   exact .same T (by simp_all [execOp,Instr.index,asIntOf,run_underlying,sizeOf,typeInfo]) A w
def Hu (p:TypeId) (c d:Operand) (D:o.op= .index p c d) (E:m.underlying p=some .string) (F:aT c=true) (L:aT d=true) (r:bL u a j) (P:Holds u f l) (b:G ⟨m,s⟩ (.lI c d) j f a7):bR m s o a l u f a7:=by
 have x:=r.aj c F;have y:=r.aj d L;simp only[G]at b;split at b
 case h_2=>exact b.elim
 rename_i h n k S T;rw[S]at x;rw[T]at y;have V:=x.dU;have W:=y.dU;obtain⟨e,b⟩:=b;split at b
 case h_2=>exact b.elim
 rename_i z C;have g:h[k.toNat]? =some z:=by have i:k.toNat<h.data.size:=(a6a.1 C).1;rw[getElem?_pos h k.toNat i];have:=(a6a.1 C).2;rw[<-this];rfl
 exact .same P (v:= .int .u8 z.toNat) (by simp[execOp,D,V,W,Instr.index,asIntOf,run_underlying E,e,g]) (.v _ rfl) b
theorem Hv (c:Operand) (d:Nat) (k:o.op= .extract c d) (p:aT c=true) (r:bL u a j) (x:Holds u f l) (b:G ⟨m,s⟩ (.ext c d) j f a7):bR m s o a l u f a7:=by
 have h:=r.aj c p;simp only[G]at b;split at b
 case h_2=>exact b.elim
 rename_i y z;rw[z]at h;split at b
 case h_2=>exact b.elim
 rename_i C D;generalize E:a.eval c=P at h;cases h with
 |aL us y S F=>
  have L:d<us.size:=by grind
  have:=F d C D;refine .same x (v:=us.getD d undef) ?_ this b;simp[execOp,k,E,Instr.extract,L]
def Hw (S:TypeId) (d:Operand) (y:o.op= .call {callee:= .builtin .len,args:= #[d],argTypes:= #[S]}) (V:TypeId) (z:m.underlying S=some (.slice V))
  (W:aT d=true) (e:bL u a j) (C:Holds u f l) (h:G ⟨m,s⟩ (.len d) j f a7):bR m s o a l u f a7:=by
 have b:=e.aj d W;simp only[G]at h;split at h
 .rename_i D g k;rw[k]at b;generalize p:a.eval d=E at b;have F: ∃r c,E= .slice r D.length c:=by
   cases b with
   |di r c=>exact⟨r,c,rfl⟩
   |J n T len c x q D g hk F=>subst F;exact⟨_,c,rfl⟩
  obtain⟨r,c,rfl⟩:=F;exact .same C (v:= .int .i64 D.length) (by simp[execOp,y,resolve,invoke,builtin,p,Builtin.len_,run_underlying z,goInt]) (.v _ rfl) h
 .rename_i L T P t x k;rw[k]at b;generalize p:a.eval d=E at b;cases b with
  |bw L T len c x hk i=>exact .same C (v:= .int .i64 P) (by simp[execOp,y,resolve,invoke,builtin,p,Builtin.len_,run_underlying z,goInt]) (.v _ rfl) h
 .rename_i L P c x k;rw[k]at b;generalize p:a.eval d=E at b;cases b with
  |al L len c x hk i=>exact .same C (v:= .int .i64 P) (by simp[execOp,y,resolve,invoke,builtin,p,Builtin.len_,run_underlying z,goInt]) (.v _ rfl) h
 .exact h.elim
def Hx (d:TypeId) (b:Operand) (k:o.op= .call {callee:= .builtin .len,args:= #[b],argTypes:= #[d]}) (p:m.underlying d=some .string)
  (r:aT b=true) (x:bL u a j) (y:Holds u f l) (c:G ⟨m,s⟩ (.q3 b) j f a7):bR m s o a l u f a7:=by
 have h:=x.aj b r;simp only[G]at c;split at c
 .rename_i z C;rw[C]at h;have D:=h.dU;exact .same y (v:= .int .i64 z.size) (by simp[execOp,k,resolve,invoke,builtin,D,Builtin.len_,run_underlying p,goInt]) (.v _ rfl) c
 .exact c.elim
theorem Hy (c:BinOp) (x:TypeId) (k p d:Value) (b:bn c k p=some d) (r:World):(binOp c x k p).run m r= .ok d r/\d.oneCell'=true:=by
 unfold bn at b;split at b
 .rename_i C D E F;split at b
  .rename_i h;unfold nL at b;split at b
   .cases b
   .rename_i y;cases c<;>simp[eK]at h<;>simp only[]at b<;>(obtain rfl:=a4G b)<;>simp[binOp,Op.shift,y,Value.oneCell']
  .rename_i h;split at b
   .rename_i z;subst z;cases c<;>simp[eK]at h<;>simp only[gj]at b<;>first
     |(split at b<;>first|(cases b;done)|skip)
     |skip
    all_goals (obtain rfl:=a4G b)
    all_goals simp_all [binOp,Op.intArith,Op.intDiv,Op.intBits,Op.intCmp,Value.oneCell']
    all_goals grind
   .cases b
 .unfold pZ at b;cases c<;>simp only[]at b<;>first
   |(cases b;done)
   |(split at b<;>first|(cases b;done)|skip)
   |skip
  all_goals (obtain rfl:=a4G b)
  all_goals simp[binOp,Op.stringOp,Value.oneCell']
  omega
 .cases b
def Hz (b:BinOp) (p:TypeId) (r x:Operand) (d h:Value) (c:(bn b d h).isSome) (k:World):(eqGuard b p r x d h).run m k= .ok () k:=by
 unfold bn at c;split at c<;>first
  |(cases b<;>simp[eqGuard];done)
  |simp at c
theorem vV (h:BinOp) (k:TypeId) (c d:Operand) (z:TypeId) (V:o.op= .binOp h k c d z) (C:aT c=true) (D:aT d=true) (p:bL u a j) (E:Holds u f l) (b:G ⟨m,s⟩ (.bin h c d) j f a7):bR m s o a l u f a7:=by
 have r:=p.aj c C;have x:=p.aj d D;simp only[G]at b;split at b
 case h_2=>exact b.elim
 rename_i F v L P;rw[L]at r;rw[P]at x;have W:=r.dU;have e:=x.dU;split at b
 case h_2=>exact b.elim
 rename_i y S;obtain⟨g,T⟩:=Hy (m:=m) h k F v y S l;exact .same E (v:=y) (by simp_all [execOp,Hz]) (.v _ T) b
def HA (d:UnOp) (x:TypeId) (h:Operand) (y:o.op= .unOp d x h) (z:aT h=true) (C:bL u a j) (D:Holds u f l) (c:G ⟨m,s⟩ (.un d h) j f a7):bR m s o a l u f a7:=by
 have p:=C.aj h z;simp only[G]at c;split at c
 case h_2=>exact c.elim
 rename_i E F;rw[F]at p;have L:=p.dU;split at c
 case h_2=>exact c.elim
 rename_i k b;have r:(Op.unary d E).run m l= .ok k l/\k.oneCell'=true:=by
  unfold nM at b;split at b
  .cases d<;>simp only[]at b<;>first|(cases b;done)|skip
   obtain rfl:=a4G b;simp[Op.unary,Value.oneCell']
  .cases d<;>simp only[]at b<;>first|(cases b;done)|skip
   all_goals (obtain rfl:=a4G b)
   all_goals simp[Op.unary,Op.intArith,Op.intBits,Value.oneCell']
  .cases b
 exact .same D (v:=k) (by simp[execOp,y,L,r.1]) (.v _ r.2) c
def HB (h k:TypeId) (b:Operand) (r:o.op= .convert h k b) (c x:IntKind) (y:m.underlying h=some (.int x)) (z:m.underlying k=some (.int c)) (C:aT b=true) (D:bL u a j) (E:Holds u f l) (d:G ⟨m,s⟩ (.iQ c b) j f a7):bR m s o a l u f a7:=by
 have p:=D.aj b C;simp only[G]at d;split at d
 case h_2=>exact d.elim
 rename_i S F L;rw[L]at p;have P:=p.dU;exact .same E (v:= .int c (c.wrap F)) (by simp[execOp,r,P,convert,run_underlying y,run_underlying z,Conv.intToInt]) (.v _ rfl) d
theorem HC (E:Bool) (b:TypeId) (r x:Operand) (B:TypeId) (l1:o.op= .binOp (if E then .neq else .eql) b r x B) (d:Nat) (c:List c5) (H:flatK m d b=some c) (S:m.cellsOf b=c.length) (T:(m.info? b).isSome) (l2:d<=10000)
  (V:(m.underlying b).any (·.isRow)=true) (l3:m.eqGuardType m.depth b=false) (I:aT r=true) (K:aT x=true) (W:bL u a j) (e:Holds u f l) (z:G ⟨m,s⟩ (.eqv E (mJ c) r x) j f a7):bR m s o a l u f a7:=by
 have F:=W.aj r I;have L:=W.aj x K;simp only[G]at z;split at z
 case h_2=>exact z.elim
 rename_i h k M N;rw[M]at F;rw[N]at L;generalize l4:a.eval r=l5 at F;generalize l6:a.eval x=l7 at L;cases F with
 |agg p h l8 O Q=>
  cases L with
  |agg us k l9 X Y=>
   obtain⟨Z,j9,g⟩:=z;have i:br u p h:=⟨O,Q⟩;have n:br u us k:=⟨X,Y⟩;obtain⟨q,k0⟩:=oU _ h p.toList Z (br.dT.1 i).1 (br.dT.1 i).2;obtain⟨t,k1⟩:=oU _ k us.toList j9 (br.dT.1 n).1 (br.dT.1 n).2;rw[tz]at q t;have k2:p.size=c.length:=by have:=nN q;simpa using this
   have k3:us.size=c.length:=by have:=nN t;simpa using this
   obtain⟨P,v⟩:=a5A.1 T;have w:P.size=c.length:=by simpa[Program.cellsOf,v] using S
   obtain⟨y,A⟩: ∃y,m.underlying b=some y:=by
    cases hu:m.underlying b with
    |none=>simp[hu]at V
    |some y=>exact⟨y,rfl⟩
   have k4:y.isRow=true:=by simpa[A] using V
   obtain⟨n0,n1,k5,C,D,k6,k7⟩:=tx d b c H S T (10000 - d) l p us 0 (by grind) (by grind);rw[lP A k4 v]at C D;have k8:p.extract 0 (0+P.size)=p:=by rw[a5e,w,<-k2];simp
   have k9:us.extract 0 (0+P.size)=us:=by rw[a5e,w,<-k3];simp
   rw[k8]at C;rw[k9]at D;simp only[Result.ok.injEq,and_true]at C D;subst C;subst D;rw[show 10000 - d+d=10000 by omega]at k6;have l0:k5=peq (.agg h) (.agg k):=by rw[a7v,rz,k7,a6U,a6U,k0,k1];grind[List.take_of_length_le,R.agg.injEq,List.map_inj_right]
   subst l0;cases E
   .refine .same e (v:= .bool (peq (.agg h) (.agg k))) ?_ (.v _ rfl) (by simpa using g);simp_all [execOp,run_eqGuard_agg,run_eql_struct]
   .refine .same e (v:= .bool (!(peq (.agg h) (.agg k)))) ?_ (.v _ rfl) (by simpa using g);simp_all [execOp,run_eqGuard_agg,run_neq_struct]
theorem HD (y:Bool) (d:TypeId) (z F:Operand) (W:TypeId) (k:o.op= .binOp (if y then .neq else .eql) d z F W) (P:TypeId) (S:m.underlying d=some (.pointer P)) (e:aT z=true) (g:aT F=true) (T:bL u a j) (p:Holds u f l)
  (b:G ⟨m,s⟩ (.q4 y z F) j f a7):bR m s o a l u f a7:=by
 have h:=T.aj z e;have r:=T.aj F g;have i:m.pointee d=P:=by simp[Program.pointee,S]
 have n:m.underlying d=some (.pointer (m.pointee d)):=by rw[i];exact S
 have x: ∀L:Option Addr,(Op.equalIn 10000 d (.pointer L) (.pointer none)).run m l= .ok L.isNone l:=λL=>run_equalIn_pointer_nil l 9999 d L n;simp only[G]at b;split at b
 .rename_i v q C D;rw[C]at h;rw[D]at r;have E:=h.mK;have c:=r.dU;cases y
  .exact .same p (v:= .bool false) (by simp[execOp,k,E,c,eqGuard,binOp,Op.equal,Op.maxDepth,x]) (.v _ rfl) b
  .exact .same p (v:= .bool true) (by simp[execOp,k,E,c,eqGuard,binOp,Op.equal,Op.maxDepth,x]) (.v _ rfl) b
 .rename_i t C D;rw[C]at h;rw[D]at r;have c:=r.dU;generalize V:a.eval z=w at h;cases h with
  |bV A q B t H hH I=>
   cases y
   .exact .same p (v:= .bool false) (by simp[execOp,k,V,c,eqGuard,binOp,Op.equal,Op.maxDepth,x]) (.v _ rfl) b
   .exact .same p (v:= .bool true) (by simp[execOp,k,V,c,eqGuard,binOp,Op.equal,Op.maxDepth,x]) (.v _ rfl) b
 .rename_i C D;rw[C]at h;rw[D]at r;have E:=h.dU;have c:=r.dU;cases y
  .exact .same p (v:= .bool true) (by simp[execOp,k,E,c,eqGuard,binOp,Op.equal,Op.maxDepth,x]) (.v _ rfl) (by simpa using b)
  .exact .same p (v:= .bool false) (by simp[execOp,k,E,c,eqGuard,binOp,Op.equal,Op.maxDepth,x]) (.v _ rfl) (by simpa using b)
 .exact b.elim
theorem HE (b:FuncId) (c:Func) (args:Array Operand) (y:Array TypeId) (z:o.op= .call {callee:= .value (.func b),args,argTypes:=y}) (C:m.funcs[b]? =some c) (D:c.body.isSome) (E:c.name≠ "runtime.NumGoroutine")
  (F: ∀h∈args.toList,aT h=true) (L:bL u a j) (r:Holds u f l) (P:G ⟨m,s⟩ (.fY b args.toList) j f a7):bR m s o a l u f a7:=by
 intro g i;have S:br u (args.map a.eval) (args.toList.map (aj j)):=by
  refine br.dT.2 ⟨a9q,λT h V d k=> ?_⟩;rw[a7p,a5j]at d;rw[a5j]at k;cases p:args.toList[T]? with
  |none=>simp[p]at d
  |some op=>
   rw[p]at d k;obtain rfl:a.eval op=h:=by simpa using d
   obtain rfl:aj j op=V:=by simpa using k
   exact L.aj op (F op (a4O p))
 have W:=P (args.map a.eval) l u S r;have e:(execOp a.eval o).run m l= .ok (.enter b (args.map a.eval)) l:=by
  cases x:c.body with
  |none=>simp[x]at D
  |some n=>simp[execOp,z,resolve,Act.eval,Deferred.ofValue,invoke,callFunc,C,E,x]
 unfold Oper.wp;rw[e];exact W.mono λq t r=>by
  grind
end
variable{b1:Int}
section
variable  {o:Oper}{a:Act}   
def valOf (b:Act) (c:Option Operand):Option Value:=c.map b.eval
def gl (h:bL u a j) {b:Option Operand} (k:b.all aT=true) (c:df j b e=some b1):(b=none/\b1=e)\/ ∃d,valOf a b=some (.int d b1):=by
 cases b with
 |none=>left;simp only[df,a4S]at c;exact⟨rfl,c.symm⟩
 |some b=>
  right;simp only[df]at c;split at c
  .rename_i d r p;obtain rfl:=a4G c;have:=h.aj b (by simpa using k);rw[p]at this;exact⟨d,by simp[valOf,this.dU]⟩
  .cases c
theorem Ag (z:Bool) (d h:Nat) (k p:Option Operand) (c b:Int) (C:(k=none/\c=0)\/ ∃r,valOf a k=some (.int r c)) (D:(p=none/\b=d)\/ ∃r,valOf a p=some (.int r b))
  (E:0<=c) (F:c<=b) (T:b<=d) (V:d<=h) (y:World):(Instr.sliceBounds z d h (valOf a k) (valOf a p) none).run m y= .ok (c.toNat,b.toNat,h) y:=by
 have W:(b.toNat:Int)=b:=a6o a9p;have G:b<=(h:Int):=a9p;have L:0<=b:=a9p;have x:valOf a none=none:=rfl;rcases C with ⟨rfl,rfl⟩|⟨e,P⟩<;>rcases D with ⟨rfl,rfl⟩|⟨f,S⟩
 .simp[Instr.sliceBounds,x]
 .simp only[Instr.sliceBounds,x,S];simp[run_sliceBound,G,L]
 .simp only[Instr.sliceBounds,x,P];simp[run_sliceBound,E,F]
 simp_all [Instr.sliceBounds,run_sliceBound]
theorem HF (k4:TypeId) (D:Operand) (E i:Option Operand) (n1:o.op= .slice k4 D E i none) (p:TypeId) (k9:m.underlying k4=some (.slice p)) (F:Nat) (K:(m.info? p).map (·.size)=some F) (l0:aT D=true) (M:E.all aT=true) (N:i.all aT=true)
  (P:bL u a j) (O:Holds u f l) (r:G ⟨m,s⟩ (.oS F D E i) j f a7):bR m s o a l u f a7:=by
 have x:=P.aj D l0;have Q: ∀(y:Option Addr) (len d:Nat) (c b:Int),((E=none/\c=0)\/ ∃X,valOf a E=some (.int X c))->((i=none/\b=len)\/ ∃X,valOf a i=some (.int X b))->0<=c->c<=b->b<=len->len<=d->
   a.eval D= .slice y len d->(execOp a.eval o).run m l= .ok (.value (sliced y c.toNat b.toNat d F)) l:=by
  intro y len d c b S T V W L k5 n;have l1:=Ag (m:=m) true len d E i c b S T V W L k5 l;simp only[valOf]at l1;cases l2:m.info? p with
  |none=>simp[l2]at K
  |some ii=>simp_all [execOp,Instr.sliceAt,Instr.slice,run_underlying,sizeOf,typeInfo,sliced]
 simp only[G]at r;split at r
 .rename_i h k6 z;rw[z]at x;split at r
  case h_2=>exact r.elim
  rename_i c b C e;obtain⟨V,W,L,n2,q⟩:=r;have S:=gl P M C;have T:=gl P N e;generalize n:a.eval D=A at x;have l3: ∃y d,A= .slice y h.length d/\h.length<=d:=by
   cases x with
   |di y d=>simp
   |J Y B len d F Z h k6 K j9 g=>grind
  obtain⟨y,d,k0,g⟩:=l3;have t:=Q y h.length d c b (by simpa using S) T V W L g (by rw[n,k0]);refine .same O t ?_ q;have l4:aZ u (sliced y c.toNat b.toNat d F) (.J ((h.take b.toNat).drop c.toNat) .any):=by
   by_cases l5:c.toNat=b.toNat
   .have p:(h.take b.toNat).drop c.toNat= []:=by rw[List.drop_eq_nil_iff];simp;omega
    rw[p,l5];unfold sliced;rw[a7h];refine .di _ _ _ (λl6=> ?_) trivial;split at l6
    .omega
    .cases x with
     |di n3 k7 n4 bP=>simp_all
     |J Y B len k7 k Z h k6 K j9 g=>simp_all
   .have k8:h≠ []:=by rintro rfl;simp at L;omega
    obtain⟨Y,B,k7,k,Z,k1,l7,n5,k2,n9,l8,a00,_⟩:=x.vU k8;rw[k0]at k1;simp only[Value.slice.injEq]at k1;obtain⟨rfl,_,rfl⟩:=k1;obtain rfl:k=F:=by
     match h,k8 with
     |gL::h,_=>simp_all
    unfold sliced;rw[if_neg a9p,a5M,hi];have l9: ∀p∈(h.take b.toNat).drop c.toNat,p.cells.length=k:=λp z=>k2 p (a4Z (a5n z));have a01:flat ((h.take b.toNat).drop c.toNat)=((flat h).take (b.toNat*k)).drop (c.toNat*k):=by rw[(fZ b.toNat k2).2,(fZ c.toNat (λp z=>k2 p (a4Z z))).1]
    have j9:((h.take b.toNat).drop c.toNat).length=b.toNat - c.toNat:=a9r;refine .J Y _ _ _ k (λH=>Z (c.toNat*k+H)) _ .any l7 j9.symm a9p l9 (λa02 k5=> ?_) (λH a03=> ?_) (λH a04 k9=> ?_) trivial;grind
    .rw[a7W];refine l8 _ ?_;have:c.toNat*k+H<b.toNat*k:=by
      have p:b.toNat*k=c.toNat*k+(b.toNat - c.toNat)*k:=by rw[<-a5J];congr 1;omega
      omega
     exact a5X this (a4Y _ a9p)
    grind
  unfold vN;split
  .simp only[df,a4S]at C e;subst C;subst e;have:(h.take ((h.length:Int)).toNat).drop ((0:Nat):Int).toNat=h:=a9q;rw[this];have n0:sliced y ((0:Nat):Int).toNat ((h.length:Nat):Int).toNat d F=A:=by rw[k0];unfold sliced;simp_all [Addr.add]
   rw[n0];exact x
  .exact l4
 .rename_i v B w d k z;rw[z]at x;split at r
  case h_2=>exact r.elim
  rename_i c b C e;obtain⟨rfl,V,W,L,k3,q⟩:=r;have S:=gl P M C;have T:=gl P N e;generalize n:a.eval D=A at x;cases x with
  |bw v B w d F I g=>have t:=Q _ w d c b (by simpa using S) T V W L g n;refine .same O t ?_ q;unfold sliced;rw[if_neg a9p,a5M,hi];exact .bw _ _ _ _ _ I a9p
 .rename_i v w d k z;rw[z]at x;split at r
  case h_2=>exact r.elim
  rename_i c b C e;obtain⟨rfl,V,W,L,k3,q⟩:=r;have S:=gl P M C;have T:=gl P N e;generalize n:a.eval D=A at x;cases x with
  |al v w d k I g=>
   have t:=Q _ w d c b (by simpa using S) T V W L g n;refine .same O t ?_ q;cases E with
   |none=>
    simp only[df,a4S]at C;subst C;simp only[a6I,q8,a5Q,if_false];have:sliced (some ⟨v,0,none⟩) ((0:Nat):Int).toNat b.toNat d k= .slice (some ⟨v,0,none⟩) b.toNat d:=by unfold sliced;simp[Addr.add]
    rw[this];exact .al _ _ _ _ I a9p
   |some E=>simp only[a7i,q8,if_true];have k3:=k3 rfl;unfold sliced;rw[if_neg a9p,a5M,hi,a5e];exact .bw _ _ _ _ _ I a9p
 .exact r.elim
theorem vW (z:0<i) (h:e*i<=g.length) (C: ∀p∈g,p.one=true):(∀b∈dK i e g,b.cells.length=i)/\flat (dK i e g)=g.take (e*i)/\(dK i e g).length=e:=by
 unfold dK;split
 .rename_i r;subst r;rw[a5t]at h|-;have D: ∀b:R,b.one=true->b.cells= [b]:=λb d=>by cases b<;>first|rfl|(simp[R.one]at d)
  refine⟨λb d=>by grind,?_,a9r⟩;have: ∀c:List R,(∀b∈c,b.one=true)->flat c=c:=by
   intro c
   induction c with
   |nil=>intro _;rfl
   |cons E c ih=>grind[flat,List.mem_cons_self,List.mem_cons_of_mem]
  grind
 .refine⟨λb d=> ?_,?_,a9q⟩
  .obtain⟨k,x,rfl⟩:=a5d.1 d;have y:k<e:=a5Z.1 x;have:(k+1)*i<=e*i:=a4Y _ y;grind[R.cells,List.length_take,List.length_drop,Nat.add_mul]
  .clear h
   induction e with
   |zero=>simp[flat]
   |succ e ih=>rw[a8N,a5N];simp only[flat,a5D,a5h,a6y,a5l,a7F,a5R,R.cells]at ih|-;rw[ih,a5J,a7g,a9b]
theorem Ah (b:f e=some (.ro g)):f.set e (.ro g)=f:=by grind[U.ah,U.an]
def Step.HG (d:Holds u f l) (b:f.read e=some g): ∃k,Step u f l k (f.set e (.ro g)) l:=by
 unfold U.read at b;split at b
 .rename_i h c;obtain rfl:=a4G b;exact Step.freeze d c
 .rename_i h c;obtain rfl:=a4G b;rw[Ah c];exact⟨u,.refl d⟩
 .rename_i T h c;obtain rfl:=a4G b;exact Step.vL d (.inr (.inl ⟨T,c⟩))
 .rename_i h c;obtain rfl:=a4G b;exact Step.vL d (.inr (.inr c))
 .cases b
theorem Ai (W:TypeId) (y:Operand) (z C:Option Operand) (k8:o.op= .slice W y z C none) (k:Nat) (x:TypeId) (p:m.underlying W=some (.array k x)) (b:Nat) (A:(m.info? x).map (·.size)=some b) (F:0<b) (e:Bool) (B:aT y=true) (H:z.all aT=true)
  (I:C.all aT=true) (L:bL u a j) (P:Holds u f l) (c:G ⟨m,s⟩ (.kj b k y z C e) j f a7):bR m s o a l u f a7:=by
 have g:=L.aj y B;simp only[G]at c;split at c
 case h_2=>exact c.elim
 rename_i D r K;rw[K]at g;split at c
 case h_2=>exact c.elim
 rename_i d h M N;obtain⟨O,Q,X,c⟩:=c;split at c
 case h_2=>exact c.elim
 rename_i S i;obtain⟨k9,c⟩:=c;have l0:=g.mK;have Y:=Ag (m:=m) (a:=a) false k k z C d h (by simpa using gl L H M) (gl L I N) O Q X (a5k _) l;simp only[valOf]at Y;obtain⟨Z,l1,T,l2,l3,l4⟩:=P.read i;have n:(execOp a.eval o).run m l= .ok (.value (.slice (some (if k=d.toNat then⟨D,r,none⟩else⟨D,r+d.toNat*b,none⟩)) (h.toNat - d.toNat) (k - d.toNat))) l:=by
  cases j9:m.info? x with
  |none=>simp[j9]at A
  |some ii=>simp_all [execOp,Instr.sliceAt,run_underlying,Instr.sureAddr,sizeOf,typeInfo,hi]
 cases e with
 |true=>
  simp only[if_true]at c;obtain⟨l5,q⟩:=Step.HG P i;refine .value n q ?_ c;obtain⟨_,k0,l6,_,l7,t,k1⟩:=q.holds.dS D _ (U.ah _ _ _);have l8:h.toNat*b<=k*b:=a4Y _ a9p;have l9:(h.toNat - d.toNat)*b+d.toNat*b=h.toNat*b:=by rw[<-a5J];congr 1;omega
  have k2: ∀E∈S.drop (r+d.toNat*b),E.one=true:=λE v=>Z E (a5n v);obtain⟨k3,k4,w⟩:=vW (i:=b) (e:=h.toNat - d.toNat) (g:=S.drop (r+d.toNat*b)) F a9r k2;by_cases k5:d.toNat=h.toNat
  .have x:dK b (h.toNat - d.toNat) (S.drop (r+d.toNat*b))= []:=a4N (by rw[w];omega);rw[x,k5,a7h];exact .di _ _ _ (λk6=>by simp at k6) trivial
  .rw[if_neg a9p];refine .J D _ _ _ b (λV=>k0.getD (r+d.toNat*b+V) undef) _ .any F w.symm a9p k3 (λE v=> ?_) (λV n0=> ?_) (λV k7 p=> ?_) trivial;grind
   .refine k1 _ ?_;have:=t.1;omega
   .rw[k4,List.getElem?_take]at p;split at p
    .rw[a7O]at p;exact t.2 _ k7 p
    .cases p
 |false=>simp only[a5Q,if_false]at c;refine .same P n ?_ c.2;rw[if_neg a9p];exact .bw _ _ _ _ _ F a9p
theorem Aj (h:List Value): ∀(b c:Nat) (d:Array Value),c+b+h.length<=d.size->
  (h.zipIdx b).foldl (λ(r:Array Value) (k:Value×Nat)=>r.setIfInBounds (c+k.2) k.1) d=cX d (c+b) h:=by
 induction h with
 |nil=>intro b c d p;apply a8Y;simp[cX]
 |cons y h ih=>
  intro b c d p;simp only[a4M]at p;rw[List.zipIdx_cons,a5O,ih (b+1) c _ a9r];apply a8Y;simp only[cX,a9d,a8r,a4M];have x:c+b<d.toList.length:=a9r;rw[a6b,if_pos x];have z:(d.toList.take (c+b)).length=c+b:=by simp only[a4L];omega
  rw[show c+(b+1)=(d.toList.take (c+b)).length+1 by omega,a7C];rw[show(d.toList.take (c+b)).length+1+h.length=(d.toList.take (c+b)).length+(h.length+1) by omega,a7D];grind[List.append_assoc,List.drop_drop]
theorem Ak (F:Nat->Option (Nat×Nat)) (C:bl): ∀(r:List (Nat×Operand)) (res:List (Nat×Nat×Operand)) (b:Array Value) (c:List R) (x:List R->Prop),
  r.length=res.length->(∀(p:Nat) (d:Nat×Operand) (h:Nat×Nat×Operand),r[p]? =some d->res[p]? =some h->F d.1=some (h.1,h.2.1)/\d.2=h.2.2/\aT d.2=true/\0<h.2.1)->bL C a j->br C b c->(∀y∈c,y.one=true)->ko j c res x->
  ∃D z,Instr.fill F b (r.map λd=>(d.1,a.eval d.2))=some D/\br C D z/\(∀y∈z,y.one=true)/\x z
 | [],[],b,c,x,_,_,_,E,G,L=>⟨b,c,rfl,E,G,L⟩
 |(v,k)::r,(off,cq,w)::res,b,c,x,f,P,S,E,G,L=>by
  obtain⟨T,V,W,g⟩:=P 0 _ _ rfl rfl;simp only at T V W g;subst V;obtain⟨i,A,l⟩:=L;obtain⟨e,c2⟩:=(S.aj k W).cells a9p;have B:(a.eval k).cells.size=cq:=by rw[e.1,i]
  obtain⟨D,z,m,n,q,s⟩:=Ak F C r res (cX b off (a.eval k).cells.toList) (putAt c off (aj j k).cells) x (by simpa using f) (λp d h t u=>P (p+1) d h (by simpa using t) (by simpa using u)) S
   (E.putAt e off a9p) (tu G c2 off) l
  refine⟨D,z,?_,n,q,s⟩;simp only[a5h,Instr.fill,T];have H:off+(a.eval k).cells.size<=b.size:=by have:=E.1;omega
  rw[if_neg a9r];rw[show(a.eval k).cells.zipIdx.foldl (λc (y,p)=>c.setIfInBounds (off+p) y) b=cX b off (a.eval k).cells.toList by
   rw[<-Array.foldl_toList,a9e];simp_all [Aj]]
  exact m
def HH (k:TypeId) (c:Array (Nat×Operand)) (E:o.op= .build k c) (x:Nat->Option (Nat×Nat)) (b:Array Value) (p:List (Nat×Nat×Operand))
  (F: ∀y:List (Nat×Value),m.built k y=Instr.fill x b y) (L: ∀d∈b.toList,d.oneCell'=true) (P:c.toList.length=p.length)
  (S: ∀(z:Nat) (r:Nat×Operand) (h:Nat×Nat×Operand),c.toList[z]? =some r->p[z]? =some h->x r.1=some (h.1,h.2.1)/\r.2=h.2.2/\aT r.2=true/\0<h.2.1)
  (T:bL u a j) (V:Holds u f l) (W:G ⟨m,s⟩ (.lJ (b.toList.map cY) p) j f a7):bR m s o a l u f a7:=by
 obtain⟨C,w,e,D,g,i⟩:=Ak (a:=a) x u c.toList p b (b.toList.map cY) (λn=>a7 (.agg n) f) P S T (br.oR u b L) (λA q=>by obtain⟨d,_,rfl⟩:=a5d.1 q;exact nK d) W;have t:m.built k (c.map λ(v,d)=>(v,a.eval d)).toList=some C:=by rw[F,a7p];exact e
 exact .same V (v:= .agg C) (by simp only[execOp,E,Sem.run_bind,run_build l k _ _ t];rfl) (.agg _ _ g D.1 D.2) i
theorem vX {b:Nat} (T:0<b): ∀(p:List Operand) (c:Nat) (k:Array Value) (d:List R),(∀h∈p,aT h=true)->bL u a j->br u k d->(∀r∈d,r.one=true)->(∀C∈p.map (aj j),C.cells.length=b)->d.length=(c+p.length)*b->
  ∃y x,Instr.fill (λc=>some (c*b,b)) k ((p.zipIdx c).map λE=>(E.2,a.eval E.1))=some y/\br u y x/\(∀r∈x,r.one=true)/\x=d.take (c*b)++flat (p.map (aj j))
 | [],c,k,d,_,_,z,D,_,hlen=>⟨k,d,rfl,z,D,by simp[flat];grind⟩
 |h::p,c,k,d,F,G,z,D,L,hlen=>by
  have V:(aj j h).cells.length=b:=L _ a9q;obtain⟨P,c2⟩:=(G.aj h (F h a9q)).cells a9p;have n:(a.eval h).cells.size=b:=by rw[P.1,V]
  simp only[a4M]at hlen;have q:c*b+b<=d.length:=by grind
  obtain⟨y,x,W,e,f,g⟩:=vX T p (c+1) (cX k (c*b) (a.eval h).cells.toList) (putAt d (c*b) (aj j h).cells) (λi l=>F i (by simp[l])) G (z.putAt P _ a9p) (tu D c2 _)
   (λC S=>L C (by simp at S|-;exact .inr S)) (by grind[eJ])
  refine⟨y,x,?_,e,f,?_⟩
  .simp only[List.zipIdx_cons,a5h,Instr.fill];have s:c*b+(a.eval h).cells.size<=k.size:=by have:=z.1;omega
   rw[if_neg a9r];rw[show(a.eval h).cells.zipIdx.foldl (λd (r,m)=>d.setIfInBounds (c*b+m) r) k=cX k (c*b) (a.eval h).cells.toList by
    rw[<-Array.foldl_toList,a9e];simp_all [Aj]]
   exact W
  .rw[g];simp only[putAt,flat,a5h,a5l];have t:(d.take (c*b)++(aj j h).cells).length=(c+1)*b:=by rw[a5J];simp;omega
   grind
def Al (C:TypeId) (c:Nat) (D:Array (Nat×Value)) (h:TypeId) (G:m.underlying C=some (.slice h)) (b:TypeInfo) (E:m.info? h=some b) (r:Value) (L:b.zero=some r) (V:c*b.size<=2^24) (x:Array Value) (p:x=if c*b.size=0 then #[]else r.cells)
  (F:Array Value) (y:Instr.fill (λz=>some (z*b.size,b.size)) ((Array.range (c*b.size)).map (λz=>x[z%x.size]!)) D.toList=some F) (d:World):
  (Instr.buildSlice C c D).run m d= .ok (.slice (some ⟨d.heap.size,0,none⟩) c c) (d.alloc (.cells F h)):=by
 have P: ¬(c*b.size>2^24):=a9p;have S:(sizeOf h).run m d= .ok b.size d:=by simp[sizeOf,typeInfo,E]
 have T:(zeroValue h).run m d= .ok r d:=by simp[zeroValue,typeInfo,E,L]
 unfold Instr.buildSlice;simp only[Sem.run_bind,run_underlying G,Result.andThen_ok,S];rw[if_neg P];by_cases k:c*b.size=0
 .rw[if_pos k]at p;subst p;simp only[k,if_true,Sem.run_pure,Result.andThen_ok];rw[k]at y;rw[Sem.run_bind];simp only[Sem.run_pure,Result.andThen_ok,y];rfl
 .rw[if_neg k]at p;subst p;simp only[k,if_false];rw[Sem.run_bind];simp only[T,Result.andThen_ok];rw[Sem.run_bind];simp only[Sem.run_pure,Result.andThen_ok,y];rfl
theorem Am (g:TypeId) (c:Nat) (S:Array (Nat×Operand)) (r:o.op= .buildSlice g c S) (x:TypeId) (i:m.underlying g=some (.slice x)) (b:TypeInfo) (M:m.info? x=some b) (D:Value) (N:b.zero=some D) (k7:D.cells.size=b.size) (k8: ∀d∈D.cells.toList,d.oneCell'=true)
  (T:0<b.size) (O:c*b.size<=2^24) (k:List Operand) (k9:S.toList=(k.zipIdx 0).map λF=>(F.2,F.1)) (E:k.length=c) (Q: ∀d∈k,aT d=true)
  (X:bL u a j) (z:Holds u f l) (C:G ⟨m,s⟩ (.ki b.size k) j f a7):bR m s o a l u f a7:=by
 simp only[G]at C;obtain⟨n,C⟩:=C
 let eQ:Array Value:=if c*b.size=0 then #[]else D.cells
 let y:Array Value:=(Array.range (c*b.size)).map (λh=>eQ[h%eQ.size]!);have Y: ∀d∈y.toList,d.oneCell'=true:=by
  intro d q;by_cases L:c*b.size=0
  .simp[y,L]at q
  .have l0:eQ=D.cells:=if_neg L;simp only[y,a7p,a5d]at q;obtain⟨h,_,rfl⟩:=q;grind[Nat.mod_lt]
 have Z:y.size=c*b.size:=by simp[y]
 obtain⟨p,l1,j9,B,k0,V⟩:=vX (a:=a) (j:=j) (u:=u) T k 0 y (y.toList.map cY) Q X (br.oR u y Y) (λH t=>by obtain⟨d,_,rfl⟩:=a5d.1 t;exact nK d) n (by simp[Z,E]);simp only[a8g,a6q,a5b]at V;have k1:(S.map λ(h,d)=>(h,a.eval d)).toList=(k.zipIdx 0).map λF=>(F.2,a.eval F.1):=by simp_all
 have I:(execOp a.eval o).run m l= .ok (.value (.slice (some ⟨l.heap.size,0,none⟩) c c)) (l.alloc (.cells p x)):=by have:=Al (m:=m) g c (S.map λ(h,d)=>(h,a.eval d)) x i b M D N O eQ rfl p (by rw[k1];exact j9) l;simp only[execOp,r,Sem.run_bind,this];rfl
 by_cases L:k.length=0
 .rw[if_pos L]at C;have k2:c=0:=a9p;subst k2;refine .value I (b:=u.ext l.heap.size 0 p) (t:=f) ?_ (.di _ _ .zero (λk3=>by simp at k3) rfl) C;have W:=Step.write (h8:=l.alloc (.cells p x)) z l.heap.size 0 p x f rfl rfl rfl a9q (heap_alloc_new l _) (λw _ A=>pW l _ w A) (.inl rfl)
   (a5o _) (λo v P=>by rw[z.mx]at P;cases P) (λk4 o K e=>e)
   (λo r=>by rw[z.en]at r;cases r)
  exact W
 .rw[if_neg L]at C;have k5:p.size=c*b.size:=by rw[B.1,V,dg n];simp[E]
  have W:=Step.write (h8:=l.alloc (.cells p x)) z l.heap.size (c*b.size) p x (f.set l.heap.size (.buf b.size k.length k.length)) rfl rfl rfl a9q (heap_alloc_new l _) (λw _ A=>pW l _ w A) (.inl rfl)
   a9p (λo v P=>by rw[z.mx]at P;cases P) (λk4 o K e=>by rw[U.an _ _ K]at e;exact e)
   (λo r=>by
    rw[U.ah]at r;obtain rfl:=a4G r;refine⟨T,a5k _,?_,p,x,heap_alloc_new l _,by rw[k5,E],λo r=> ?_⟩
    .have:k.length*1<=c*b.size:=by rw[E];exact a9f _ T
     unfold maxLen;omega
    .rw[bl.oQ _ _ _ _ (by rw[E]at r;omega)];exact z.mx o)
  refine .value I W ?_ (C _ z.en);refine .J _ _ _ _ b.size (λh=>p.getD h undef) _ _ T (by simp[E]) a9p n (λH t=>k0 H (by rw[V];exact t)) (λh l2=> ?_) (λh k6 i=> ?_) ⟨rfl,rfl,a9p⟩;simp_all [a5e,bl.oP]
  .exact((B.2 h k6 (by rw[V];exact i))).mono W.le
theorem HI (E:TypeId) (d:Nat) (z:Array (Nat×Operand)) (e:o.op= .buildSlice E d z) (r:TypeId) (g:m.underlying E=some (.slice r)) (b:TypeInfo) (i:m.info? r=some b) (p:Value) (n:b.zero=some p) (A:p.cells.size=b.size) (B: ∀c∈p.cells.toList,c.oneCell'=true)
  (F:0<b.size) (q:d*b.size<=2^24) (h:List Operand) (H:z.toList=(h.zipIdx 0).map λC=>(C.2,C.1)) (L:h.length=d) (t: ∀c∈h,aT c=true)
  (v:bL u a j) (P:Holds u f l) (x:G ⟨m,s⟩ (.kl b.size h) j f a7):bR m s o a l u f a7:=by
 simp only[G]at x;obtain⟨I,x⟩:=x;by_cases D:h.length=0
 .rw[if_pos D]at x;refine Am E d z e r g b i p n A B F q h H L t v P ?_;simp_all [G,if_pos]
 rw[if_neg D]at x
 let eQ:Array Value:=if d*b.size=0 then #[]else p.cells
 let k:Array Value:=(Array.range (d*b.size)).map (λy=>eQ[y%eQ.size]!);have K: ∀c∈k.toList,c.oneCell'=true:=by
  intro c S;by_cases D:d*b.size=0
  .simp[k,D]at S
  .have Z:eQ=p.cells:=if_neg D;simp only[k,a7p,a5d]at S;obtain⟨y,_,rfl⟩:=S;grind[Nat.mod_lt]
 have M:k.size=d*b.size:=by simp[k]
 obtain⟨T,j9,N,O,Q,V⟩:=vX (a:=a) (j:=j) (u:=u) F h 0 k (k.toList.map cY) t v (br.oR u k K) (λw W=>by obtain⟨c,_,rfl⟩:=a5d.1 W;exact nK c) I (by simp[M,L]);simp only[a8g,a6q,a5b]at V;have X:(z.map λ(y,c)=>(y,a.eval c)).toList=(h.zipIdx 0).map λC=>(C.2,a.eval C.1):=by simp_all
 have Y:(execOp a.eval o).run m l= .ok (.value (.slice (some ⟨l.heap.size,0,none⟩) d d)) (l.alloc (.cells T r)):=by have:=Al (m:=m) E d (z.map λ(y,c)=>(y,a.eval c)) r g b i p n q eQ rfl T (by rw[X];exact N) l;simp only[execOp,e,Sem.run_bind,this];rfl
 subst L;refine .value Y (Step.new P T r _ (λw W=> ?_) ?_) (.al _ _ _ _ F (a5k _)) (x _ P.en)
 .exact Q w (by rw[V];exact W)
 .rw[<-V];exact O
end
section
variable  {o:Oper}{a:Act}   
theorem aZ.src (T:aZ u e4 (.J g N)) (V:Holds u f l) (E: ∀W∈g,W.cells.length=e) (F:Program):
  ∃y:List Value,Src F l e g.length e4 y/\y.length=(flat g).length/\(∀b h,(flat g)[b]? =some h->aZ u (y.getD b Go.undef) h)/\(∀z∈flat g,z.one=true):=by
 cases T with
 |di k cap N bP i=>
  refine⟨[],⟨rfl,?_,?_,a9q⟩,rfl,λb h r=>by simp[flat]at r,λz d=>by simp[flat]at d⟩
  .cases k<;>simp[Builtin.firstCells,loadCells,loadCellsFrom]
  .cases k<;>simp[Builtin.firstCells,loadCells,loadCellsFrom]
 |J G off len cap c C xs N hk D s j m hH t i=>
  subst D;cases x:g with
  |nil=>subst x;refine⟨[],⟨rfl,?_,?_,a9q⟩,rfl,λb h r=>by simp[flat]at r,λz d=>by simp[flat]at d⟩<;>simp[Builtin.firstCells,loadCells,loadCellsFrom]
  |cons L w=>
   rw[<-x];have n:c=e:=(j L (by simp[x])).symm.trans (E L (by simp[x]));subst n;have D:(flat g).length=g.length*c:=dg E;have d: ∀(p:World),(∀k,p.cell? k=l.cell? k)->(Builtin.firstCells c g.length (.slice (some ⟨G,off,none⟩) g.length cap)).run F p= .ok ((List.range (g.length*c)).map C).toArray p:=λp q=>by
    refine run_firstCells_some p c g.length ⟨G,off,none⟩ g.length cap _ a9q (λb v P=> ?_);have S:b<g.length*c:=by grind
    rw[a5j,a7a S]at P;obtain rfl:C b=v:=by simpa using P
    rw[q,hi];exact V.ro _ _ _ (hH b S)
   refine⟨(List.range (g.length*c)).map C,⟨rfl,d l (λ_=>rfl),d l.drew (λ_=>rfl),a9q⟩,by simp[D],λb h r=> ?_,m⟩;grind
theorem oV (b c:List R):flat (b++c)=flat b++flat c:=by simp[flat]
def iS (b c:Operand) (d h:TypeId) (k:o.op= .call {callee:= .builtin .append,args:= #[b,c],argTypes:= #[d,h]}) {v:Value}
  (p:(Builtin.append_ #[d,h] o.type #[a.eval b,a.eval c]).run m l= .ok v h8):(execOp a.eval o).run m l= .ok (.value v) h8:=by
 simp[execOp,k,resolve,invoke,builtin,p]
theorem HJ (n S:Operand) (x:TypeId) (p:o.op= .call {callee:= .builtin .append,args:= #[n,S],argTypes:= #[x,x]}) (k:TypeId) (r:m.underlying x=some (.slice k)) (b:TypeInfo) (O:m.info? k=some b) (H:Value) (l5:b.zero=some H)
  (a14:H.cells.size=b.size) (Q:0<b.size) (a15:aT n=true) (a16:aT S=true) (a00:bL u a j) (V:Holds u f l) (y:G ⟨m,s⟩ (.app b.size b.bytes n S) j f a7):bR m s o a l u f a7:=by
 have g:=a00.aj n a15;have a01:=a00.aj S a16;simp only[G]at y;split at y
 case h_2=>exact y.elim
 rename_i d I h a62 K a18;rw[K]at g;rw[a18]at a01;obtain⟨a02,l6,l7,k9,y⟩:=y;obtain⟨z,t,a63,a19,a27⟩:=a01.src V l6 m;have a29: ∀F∈z,F.oneCell'=true:=λF r=>by
  obtain⟨c,L⟩:=a7E r;have a03:c<(flat h).length:=by grind
  have:=a19 c _ (a4H a03);rw[a5s,L]at this;exact this.nI (a27 _ (a5m a03))
 have j9:z.length=h.length*b.size:=t.size;generalize X:a.eval n=a04 at g;have newRow: ∀(k0:List Value) (W C:Nat) (w:List R),w.length=W->k0.length=W*b.size->(∀k∈w,k.cells.length=b.size)->(∀c F,(flat w)[c]? =some F->aZ u (k0.getD c undef) F)->(∀E∈flat w,E.one=true)->
   W+h.length<=C->C<=maxLen-> ∀l0:U,l0.sub f->
   let i:=k0.toArray++z.toArray++Builtin.zeroCells H.cells (C -(W+h.length))
   ∃k1,Step u f l k1 (l0.set l.heap.size (.buf b.size (W+h.length) C)) (l.drew.alloc (.cells i k))/\aZ k1 (.slice (some ⟨l.heap.size,0,none⟩) (W+h.length) C) (.J (w++h) (.buf l.heap.size C)):=by
  intro k0 W C w l8 k2 a05 a65 a06 Y a30 l0 a34 i;have l1:i.size=C*b.size:=by simp only[i,Array.size_append,List.size_toArray,size_zeroCells,a14,k2,j9,<-a5J];congr 1;omega
  have l2:i.toList=k0++z++(Builtin.zeroCells H.cells (C -(W+h.length))).toList:=by simp[i]
  have l3:(flat (w++h)).length=(W+h.length)*b.size:=by rw[dg (c:=b.size)];(simp[l8]);grind
  have a36: ∀c F,(flat (w++h))[c]? =some F->aZ u (i.getD c undef) F:=λc F r=>by
   rw[oV]at r;have a07:(flat w).length=W*b.size:=by rw[dg a05,l8]
   rw[a5u,<-a6g,l2];grind
  have a68:(W+h.length)*b.size<=C*b.size:=a4Y _ Y;have a38:=V.drew;have e:=Step.write (h8:=l.drew.alloc (.cells i k)) a38 l.heap.size ((W+h.length)*b.size) i k (l0.set l.heap.size (.buf b.size (W+h.length) C)) rfl rfl rfl a9q (heap_alloc_new l.drew _) (λZ _ l9=>pW l.drew _ Z l9) (.inl rfl)
   a9p (λo v g=>by rw[V.mx]at g;cases g) (λn0 o k3 k4=>by rw[U.an _ _ k3]at k4;exact a34 n0 o k4)
   (λo p=>by
    rw[U.ah]at p;obtain rfl:=a4G p;refine⟨Q,Y,a30,i,k,heap_alloc_new l.drew _,l1,λo p=> ?_⟩;rw[bl.oQ _ _ _ _ a9p];exact V.mx o)
  refine⟨_,(Step.drew V).trans e,?_⟩;refine .J _ _ _ _ b.size (λc=>i.getD c undef) _ _ Q (by simp[l8]) Y (λk K=>by grind) (λE k5=>by
   grind[oV]) (λc L=> ?_) (λc F r=>(a36 c F r).mono e.le) ⟨rfl,rfl,rfl⟩
  rw[a5e,bl.oP _ _ _ _ L];simp[show c<i.size by omega]
 cases I with
 |any=>exact y.elim
 |nil=>
  obtain⟨rfl,y⟩:=y;have n1:a04= .slice none 0 0:=by
   cases g with
   |di q C I bP p=>simp only[Own.lH]at p;subst p;rw[bP rfl]
   |J Z off len C n2 A d I Q l3 Y l6 a42 hH a08 p=>exact p.elim
  subst n1;by_cases M:h= []
  .subst M;rw[if_pos rfl]at y;have a09:z= []:=a4N (by simpa using j9);refine .same V (iS n S x x p (v:= .slice none 0 0) (h8:=l) ?_) (.di _ _ .nil (λ_=>rfl) rfl) y;rw[X];have k6:=t.len;have k7:=t.cells;simp only[a4R]at k6 k7;simp[Builtin.append_,run_underlying r,sizeOf,typeInfo,O,k6,k7]
  .rw[if_neg M]at y;have a43:0<h.length:=a5S.2 M;have B:=pY (m:=m) l x x o.type k b H r _ r (.inl ⟨k,rfl⟩) O l5 none 0 0 [] a9q (by simp[Builtin.firstCells]) h.length (a.eval S) z t a9p (by simp only[a4R]at k9;omega) (by simpa using l7);simp only[a5e]at B;have n3:=grownCap_ge l h.length 0 k;have k8:=grownCap_le_maxLen l h.length 0 k (by unfold maxLen;simp only[a4R]at k9;omega);obtain⟨k1,e,N⟩:=newRow [] 0 (grownCap l h.length 0 k) [] rfl a9q (λk K=>by simp at K) (λc F r=>by simp[flat]at r) (λE k5=>by simp[flat]at k5) a9p k8 f (λ_ _ n4=>n4);simp only[a5e,a5b]at e N;refine .value (iS n S x x p (by rw[X];exact B)) e N (y _ _ V.en)
 |zero=>
  obtain⟨rfl,y⟩:=y;have n1: ∃q,a04= .slice q 0 0:=by
   cases g with
   |di q C I bP p=>simp only[Own.lH]at p;subst p;exact⟨q,rfl⟩
   |J Z off len C n2 A d I Q l3 Y l6 a42 hH a08 p=>exact p.elim
  obtain⟨q,rfl⟩:=n1;by_cases M:h= []
  .subst M;rw[if_pos rfl]at y;have a09:z= []:=a4N (by simpa using j9);refine .same V (iS n S x x p (v:= .slice q 0 0) (h8:=l) ?_) (.di _ _ .zero (λ_=>rfl) rfl) y;rw[X];have k6:=t.len;have k7:=t.cells;simp only[a4R]at k6 k7;subst a09;cases q<;>simp[Builtin.append_,run_underlying r,sizeOf,typeInfo,O,k6,k7,storeCells]
  .rw[if_neg M]at y;have a43:0<h.length:=a5S.2 M;have B:=pY (m:=m) l x x o.type k b H r _ r (.inl ⟨k,rfl⟩) O l5 q 0 0 [] a9q (by cases q<;>simp[Builtin.firstCells,loadCells,loadCellsFrom]) h.length (a.eval S) z t a9p (by simp only[a4R]at k9;omega) (by simpa using l7);simp only[a5e]at B;have n3:=grownCap_ge l h.length 0 k;have k8:=grownCap_le_maxLen l h.length 0 k (by unfold maxLen;simp only[a4R]at k9;omega);obtain⟨k1,e,N⟩:=newRow [] 0 (grownCap l h.length 0 k) [] rfl a9q (λk K=>by simp at K) (λc F r=>by simp[flat]at r) (λE k5=>by simp[flat]at k5) a9p k8 f (λ_ _ n4=>n4);simp only[a5e,a5b]at e N;refine .value (iS n S x x p (by rw[X];exact B)) e N (y _ _ V.en)
 |buf P E=>
  obtain⟨a10,y⟩:=y;obtain⟨_,a47,a48,D,T,n5,n9,a69⟩:=V.dS P _ a10;cases g with
  |di q C I bP p=>exact p.elim
  |J Z off len C n2 A d I a71 l3 Y a05 a06 hH a08 p=>
   obtain⟨rfl,rfl,rfl⟩:=p;subst l3;have a73:d.length*n2=d.length*b.size:=by
    cases a74:d with
    |nil=>simp
    |cons gL a81=>simp_all
   have a11: ∀c,c<d.length*b.size->u P c=some (A c):=λc L=>by
    simp_all
   have a52: ∀c,c<d.length*b.size->D[c]? =some (A c):=λc L=>by
    have:=V.ro _ _ _ (a11 c L);grind[cell_of_row]
   have a83:d.length*b.size<=D.size:=by rw[n9];exact a4Y _ a47
   by_cases l4:d.length+h.length<=E
   .
    have a13:d.length*b.size+z.length<=D.size:=by rw[j9,n9,<-a5J];exact a4Y _ l4
    have B:=A9 (m:=m) l x x o.type k b r _ r (.inl ⟨k,rfl⟩) O P d.length E D T _ n5 (vM _) h.length (a.eval S) z t a29 l4 a13;have l1:(cX D (d.length*b.size) z).size=D.size:=by simp[cX];omega
    have l2:(cX D (d.length*b.size) z).toList=D.toList.take (d.length*b.size)++z++D.toList.drop (d.length*b.size+z.length):=by simp[cX]
    have a84: ∀c,c<d.length*b.size->(cX D (d.length*b.size) z)[c]? =some (A c):=λc L=>by
     rw[<-a6g,l2,a4U,a6D a9r,a5K L,a6g];exact a52 c L
    have a07:(flat d).length=d.length*b.size:=dg a02;have e:=Step.write (h8:=l.setRow P (cX D (d.length*b.size) z)) V P ((d.length+h.length)*b.size) (cX D (d.length*b.size) z) T ((f.del P).set P (.buf b.size (d.length+h.length) E)) rfl rfl rfl a9q (setRow_heap l P D _ T _ n5)
     (λZ _ l9=>setRow_other l P Z _ l9) (.inr (by simp[a10])) (by rw[l1,a5J,<-j9];exact a13)
     (λo v g=>by
      grind)
     (λn0 o k3 k4=>by rw[U.an _ _ k3,U.eI _ k3]at k4;exact k4)
     (λo p=>by
      rw[U.ah]at p;obtain rfl:=a4G p;refine⟨Q,l4,a48,_,T,setRow_heap l P D _ T _ n5,by rw[l1,n9],λo p=> ?_⟩;grind[bl.oQ,Nat.le_trans,Nat.mul_le_mul_right])
    refine .value (iS n S x x p (by rw[X];exact B)) e ?_ (y P E (.inl rfl));refine .J _ _ _ _ b.size (λc=>(cX D (d.length*b.size) z).getD c undef) _ _ Q a9q l4 (λk K=>by grind) (λE k5=>by
     grind[oV]) (λc L=> ?_) (λc F r=> ?_) ⟨rfl,rfl,rfl⟩
    .rw[a5e,bl.oP _ _ _ _ L];have:c<(cX D (d.length*b.size) z).size:=by grind
     simp[this]
    .refine aZ.mono e.le ?_;rw[oV]at r;by_cases L:c<d.length*b.size
     .rw[a6D a9p]at r;simp_all
     .rw[a7H a9p,a07]at r;have a56:c - d.length*b.size<z.length:=by grind
      have a57:(D.toList.take (d.length*b.size)).length=d.length*b.size:=a9r;rw[a5u,<-a6g,l2,a4U,a7H a9p,a57,a6D a56];grind
   .
    have k2:((List.range (d.length*b.size)).map A).length=d.length*b.size:=a9q;have a61:(Builtin.firstCells b.size d.length (.slice (some ⟨P,0,none⟩) d.length E)).run m l.drew= .ok ((List.range (d.length*b.size)).map A).toArray l.drew:=by
     refine run_firstCells_some l.drew b.size d.length ⟨P,0,none⟩ d.length E _ k2 (λc v g=> ?_);have L:c<d.length*b.size:=by grind
     rw[a5j,a7a L]at g;obtain rfl:A c=v:=by simpa using g
     rw[hi,a5e];exact V.ro _ _ _ (a11 c L)
    have B:=pY (m:=m) l x x o.type k b H r _ r (.inl ⟨k,rfl⟩) O l5 (some ⟨P,0,none⟩) d.length E _ k2 a61 h.length (a.eval S) z t a9p a9p l7;have n3:=grownCap_ge l (d.length+h.length) E k;have k8:=grownCap_le_maxLen l (d.length+h.length) E k (by unfold maxLen;omega);obtain⟨k1,e,N⟩:=newRow ((List.range (d.length*b.size)).map A) d.length (grownCap l (d.length+h.length) E k) d rfl k2 a02 (λc F r=>by
      grind[dg,List.getElem?_eq_some_iff,List.getD]) a06 n3 k8 (f.del P) (λn0 o k3=>by
      grind[U.ir,U.eI])
    exact .value (iS n S x x p (by rw[X];exact B)) e N (y _ _ (.inr V.en))
theorem vY (P:aZ u e4 n) (S:Holds u f l) (b:bM f e n=some (i,g)) (E:Program):
  ∃p:List Value,Src E l e i e4 p/\p.length=g.length/\(∀k r,g[k]? =some r->aZ u (p.getD k Go.undef) r)/\(∀z∈g,z.one=true):=by
 have V: ∀(y d c x:Nat) (h:List R),f.read y=some h->d+c*e<=h.length->
   ∃p:List Value,Src E l e c (.slice (some ⟨y,d,none⟩) c x) p/\p.length=((h.drop d).take (c*e)).length/\(∀k r,((h.drop d).take (c*e))[k]? =some r->aZ u (p.getD k Go.undef) r)/\(∀z∈(h.drop d).take (c*e),z.one=true):=by
  intro y d c x h C F;obtain⟨s,G,T,A,B,W⟩:=S.read C;have H:G.size=h.length:=W.1;have t:((G.toList.drop d).take (c*e)).length=c*e:=a9r;have j: ∀(L:World),(∀m,L.cell? m=l.cell? m)->(Builtin.firstCells e c (.slice (some ⟨y,d,none⟩) c x)).run E L= .ok ((G.toList.drop d).take (c*e)).toArray L:=λL I=>by
   grind[run_firstCells_some,List.getElem?_eq_some_iff,hi,cell_of_row,List.getElem?_take_of_lt]
  refine⟨(G.toList.drop d).take (c*e),⟨rfl,j l (λ_=>rfl),j l.drew (λ_=>rfl),t⟩,a9r,λk r q=> ?_,λz D=>s z (a5n (a4Z D))⟩;have v:k<c*e:=by grind
  rw[a5K v,a7O]at q;have:=W.2 (d+k) r q;grind[List.getElem?_eq_some_iff,List.getElem?_take_of_lt,Array.getD_eq_getD_getElem?]
 unfold bM at b;split at b
 .rename_i K M;split at b
  case isFalse=>cases b
  rename_i N;simp only[a4S,a5U]at b;obtain⟨rfl,rfl⟩:=b;exact P.src S (by simp_all) E
 .split at b
  case h_2=>cases b
  rename_i h C;split at b
  case isFalse=>cases b
  rename_i D;simp only[a4S,a5U]at b;obtain⟨rfl,rfl⟩:=b;obtain⟨rfl,F⟩:=D;cases P with
  |al y c x e hk w=>have O:=λx=>V _ 0 _ x h C (by rw[a5e];exact F);simp_all
 .split at b
  case h_2=>cases b
  rename_i h C;split at b
  case isFalse=>cases b
  rename_i D;simp only[a4S,a5U]at b;obtain⟨rfl,rfl⟩:=b;obtain⟨rfl,F⟩:=D;cases P with
  |bw y d c x e hk w=>exact V _ _ _ _ h C F
 .cases b
def HK (z:aZ u e4 n) (F:Holds u f l) (c:mI f e n=some (i,g)) (r:Program):
  ∃x:List Value,Src r l e i e4 x/\x.length=g.length/\(∀h k,g[h]? =some k->aZ u (x.getD h Go.undef) k)/\(∀C∈g,C.one=true):=by
 unfold mI at c;split at c
 .rename_i b;split at c
  case isFalse=>cases c
  rename_i G;simp only[a4S,a5U]at c;obtain⟨rfl,rfl⟩:=c;subst G;obtain rfl:=z.dU;have P:b.data.toList.length=b.size:=a9q;have D: ∀y:World,(Builtin.firstCells 1 b.size (.string b)).run r y= .ok (b.data.toList.map λd=>Value.int .u8 d.toNat).toArray y:=λy=>by
   simp only[Builtin.firstCells,Sem.run_pure];have:b.extract 0 b.size=b:=a9q;rw[this];congr 1;apply a8Y;simp
  refine⟨b.data.toList.map λd=>Value.int .u8 d.toNat,⟨rfl,D l,D l.drew,a9q⟩,a9q,λh k p=> ?_,λC L=> ?_⟩
  .rw[a5j]at p;rw[a5s,a5j];cases E:b.data.toList[h]? with
   |none=>simp[E]at p
   |some d=>
    rw[E]at p;obtain rfl:ak d=k:=by simpa using p
    exact .v _ rfl
  .obtain⟨d,_,rfl⟩:=a5d.1 L;rfl
 .exact vY z F c r
theorem An (h: ∀b∈j8.toList,b.oneCell'=true) (d:Nat): ∀b∈(Builtin.zeroCells j8 d).toList,b.oneCell'=true:=by intro b c;unfold Builtin.zeroCells at c;simp only[a7p,a5d]at c;obtain⟨k,p,rfl⟩:=c;grind[Nat.eq_zero_or_pos,Nat.mod_lt]
theorem Ao (z C:Operand) (D E:TypeId) (K:TypeDesc) (Y:m.underlying E=some K) (Z:(∃a08,K= .slice a08)\/K= .string) (g:o.op= .call {callee:= .builtin .append,args:= #[z,C],argTypes:= #[D,E]}) (r:TypeId) (M:m.underlying D=some (.slice r)) (c:TypeInfo) (j9:m.info? r=some c) (N:Value) (n9:c.zero=some N)
    (a29:N.cells.size=c.size) (a30: ∀z∈N.cells.toList,z.oneCell'=true) (k0:0<c.size) (a34:aT z=true) (a36:aT C=true) (a09:bL u a j) (P:Holds u f l) (d:G ⟨m,s⟩ (.lL c.size c.bytes z C) j f a7):bR m s o a l u f a7:=by
  have A:=a09.aj z a34;have a38:=a09.aj C a36;simp only[G]at d;split at d
  case h_2=>exact d.elim
  rename_i k B a42;obtain⟨S,O,n0,a43,n1⟩:=HK a38 P a42 m;have a10: ∀n2∈S,n2.oneCell'=true:=λn2 M=>by
    obtain⟨V,a00⟩:=a7E M;have a11:V<B.length:=by grind
    have:=a43 V _ (a4H a11);rw[a5s,a00]at this;exact this.nI (n1 _ (a5m a11))
  have a13:S.length=k*c.size:=O.size;have a01:br u S.toArray B:=br.dT.2 ⟨by simpa using n0,λV a14 n2 a83 a84=>by
    grind⟩
  generalize k1:a.eval z=a14 at A;have newRow: ∀(n3:List Value) (b h:Nat) (F:List R),n3.length=b*c.size->br u n3.toArray F->(∀i∈F,i.one=true)->b+k<=h->
      let x:=n3.toArray++S.toArray++Builtin.zeroCells N.cells (h -(b+k))
      ∃n:List R,n.length=(h -(b+k))*c.size/\Step u f l u (f.set l.heap.size (.cells (F++B++n))) (l.drew.alloc (.cells x r)):=by
    intro n3 b h F Q k7 k2 k8 x;have a47:=An a30 (h -(b+k));have W:=br.oR u _ a47;refine⟨(Builtin.zeroCells N.cells (h -(b+k))).toList.map cY,by simp[size_zeroCells,a29],?_⟩;refine(Step.drew P).trans (Step.new P.drew x r _ (λi e=> ?_) ?_)
    . simp only[a5a,a5d]at e
      rcases e with (e|e)|⟨z,_,rfl⟩
      . exact k2 i e
      . exact n1 i e
      . exact nK z
    . rw[br.dT]at k7 a01 W|-
      grind
  split at d
  . rename_i a48 n4 k9
    rw[k9]at A;obtain⟨rfl,a15,H,k3,d⟩:=d;have a52: ∃I,a14= .slice I 0 0/\(n4= .nil->I=none):=by
      cases A with
      |di I h n4 bP g=>
        rcases a15 with rfl|rfl
        . simp only[Own.lH]at g;simp[*]
        . simp only[Own.lH]at g;simp[*]
      |J a86 L len h a16 a88 a48 n4 k0 hlen k8 a89 k2 hH a90 g=>rcases a15 with rfl|rfl<;>exact g.elim
    obtain⟨I,rfl,a92⟩:=a52;by_cases a18:k=0
    . subst a18
      rw[if_pos rfl]at d;have a56:S= []:=a4N (by simpa using a13);subst a56;have a57:aZ u (.slice I 0 0) (.J [] n4):=by omega
      refine .same P (iS z C D E g (v:= .slice I 0 0) (h8:=l) ?_) a57 d;rw[k1];have a61:=O.len;have a62:=O.cells;rcases Z with ⟨a08,rfl⟩|rfl<;>cases I<;>simp[Builtin.append_,run_underlying M,run_underlying Y,sizeOf,typeInfo,j9,a61,a62,storeCells]
    . rw[if_neg a18]at d
      have W:=pY (m:=m) l D E o.type r c N M K Y Z j9 n9 I 0 0 [] a9q (by cases I<;>simp[Builtin.firstCells,loadCells,loadCellsFrom]) k (a.eval C) S O a9p a9p (by simpa using H);simp only[a5e]at W;have t:=grownCap_ge l k 0 r;have l0:=grownCap_le_maxLen l k 0 r (by unfold maxLen;omega);obtain⟨n,k4,k5⟩:=newRow [] 0 (grownCap l k 0 r) [] a9q ⟨rfl,λV n2 a63=>by simp at a63⟩ (λi e=>by simp at e) a9p;simp only[a5e,a5b]at k5 k4;exact .value (iS z C D E g (by rw[k1];exact W)) k5 (.al _ _ _ _ k0 t) (d _ _ n P.en t l0 k4)
  . rename_i y b h a19 k9
    rw[k9]at A;have a27: ∀(p:List R) (a02:List R->bp),f.read y=some p->a19=c.size->p.length=h*c.size->(b+k)*c.bytes<=140737488355328->b+k<=9223372036854775807->
        (∀(F:List R) (k6:Array Value),br u k6 F->(∀i∈F,i.one=true)->b*c.size+F.length<=p.length-> ∃x T l1,l.heap[y]? =some (.cells x T l1)/\(∀V,V<x.size-> ¬(l1.1<=V/\V<l1.2))/\x.size=p.length/\Step u f l u (f.set y (a02 (putAt p (b*c.size) F))) (l.setRow y (cX x (b*c.size) k6.toList)))->
        (if b+k<=h then a7 (.al y (b+k) h c.size) (f.set y (a02 (putAt p (b*c.size) B)))
           else∀a03 n5 n,f a03=none->b+k<=n5->n5<=maxLen->n.length=(n5 -(b+k))*c.size->a7 (.al a03 (b+k) n5 c.size) (f.set a03 (.cells (p.take (b*c.size)++B++n))))->bR m s o a l u f a7:=by
      clear d;intro p a02 w l2 X H k3 a65 d;subst l2;obtain⟨k2,x,T,l1,a68,l3⟩:=P.read w;have a69:x.size=p.length:=l3.1;cases A with
      |al y b h a16 a71 k8=>
        have a73:b*c.size<=p.length:=by rw[X];exact a4Y _ k8
        by_cases q:b+k<=h
        . rw[if_pos q]at d
          have l4:b*c.size+B.length<=p.length:=by rw[<-n0,a13,X,<-a5J];exact a4Y _ q
          obtain⟨l5,l6,a74,l7,a81,l8,l9⟩:=a65 B S.toArray a01 n1 l4;have W:=A9 (m:=m) l D E o.type r c M K Y Z j9 y b h l5 l6 a74 l7 a81 k (a.eval C) S O a10 q (by rw[l8,n0];exact l4);exact .value (iS z C D E g (by rw[k1];exact W)) l9 (.al _ _ _ _ k0 q) d
        . rw[if_neg q]at d
          have Q:(x.toList.take (b*c.size)).length=b*c.size:=a9r;have a04:(Builtin.firstCells c.size b (.slice (some ⟨y,0,none⟩) b h)).run m l.drew= .ok (x.toList.take (b*c.size)).toArray l.drew:=by
            refine run_firstCells_some l.drew c.size b ⟨y,0,none⟩ b h _ Q (λV v A=> ?_);have a00:V<b*c.size:=by grind
            rw[hi,a5e];show l.cell? _= _;grind[cell_of_row,List.getElem?_take_of_lt]
          have W:=pY (m:=m) l D E o.type r c N M K Y Z j9 n9 (some ⟨y,0,none⟩) b h _ Q a04 k (a.eval C) S O a9p a9p H;have t:=grownCap_ge l (b+k) h r;have l0:=grownCap_le_maxLen l (b+k) h r (by unfold maxLen;omega);have k7:br u (x.toList.take (b*c.size)).toArray (p.take (b*c.size)):=by rw[br.dT]at l3|-;grind
          obtain⟨n,k4,k5⟩:=newRow _ b (grownCap l (b+k) h r) (p.take (b*c.size)) Q k7 (λi e=>k2 i (a4Z e)) t;exact .value (iS z C D E g (by rw[k1];exact W)) k5 (.al _ _ _ _ k0 t) (d _ _ n P.en t l0 k4)
    split at d
    . rename_i p w
      obtain⟨l2,X,H,k3,d⟩:=d;refine a27 p .cells (by simp[U.read,w]) l2 X H k3 (λF k6 a05 a06 a07=> ?_) d;obtain⟨l5,l6,l7,l8,l9⟩:=Step.store P w (b*c.size) F k6 a05 a06 a07;grind
    . rename_i p w
      obtain⟨l2,X,H,k3,d⟩:=d;refine a27 p .fX (by simp[U.read,w]) l2 X H k3 (λF k6 a05 a06 a07=> ?_) d;obtain⟨l5,l6,l7,l8,l9⟩:=Step.H8 P w (b*c.size) F k6 a05 a06 a07;grind
    . exact d.elim
  . rename_i y L b h a19 k9
    rw[k9]at A;split at d
    case h_2=>exact d.elim
    rename_i p w;obtain⟨rfl,X,H,k3,d⟩:=d;obtain⟨k2,x,T,l1,a68,l3⟩:=P.read (l:=y) (y:=p) (by simp[U.read,w]);have a69:x.size=p.length:=l3.1;cases A with
    |bw y L b h a16 a71 k8=>
      have a73:b*c.size<=h*c.size:=a4Y _ k8;by_cases q:b+k<=h
      . rw[if_pos q]at d
        have l4:L+b*c.size+B.length<=p.length:=by have:=a4Y c.size q;grind
        obtain⟨l5,l6,l7,l8,l9⟩:=Step.store P w (L+b*c.size) B S.toArray a01 n1 l4;have W:=Hb (m:=m) l D E o.type r c M K Y Z j9 y L b h l5 l6 _ l7 (vM _) k (a.eval C) S O a10 q (by rw[l8,n0];exact l4);exact .value (iS z C D E g (by rw[k1];exact W)) l9 (.bw _ _ _ _ _ k0 q) d
      . rw[if_neg q]at d
        have Q:((x.toList.drop L).take (b*c.size)).length=b*c.size:=a9r;have a04:(Builtin.firstCells c.size b (.slice (some ⟨y,L,none⟩) b h)).run m l.drew= .ok ((x.toList.drop L).take (b*c.size)).toArray l.drew:=by
          refine run_firstCells_some l.drew c.size b ⟨y,L,none⟩ b h _ Q (λV v A=> ?_);have a00:V<b*c.size:=by grind
          rw[hi];show l.cell? _= _;grind[cell_of_row,List.getElem?_take_of_lt]
        have W:=pY (m:=m) l D E o.type r c N M K Y Z j9 n9 (some ⟨y,L,none⟩) b h _ Q a04 k (a.eval C) S O a9p a9p H;have t:=grownCap_ge l (b+k) h r;have l0:=grownCap_le_maxLen l (b+k) h r (by unfold maxLen;omega);have k7:br u ((x.toList.drop L).take (b*c.size)).toArray ((p.drop L).take (b*c.size)):=by rw[br.dT]at l3|-;grind
        obtain⟨n,k4,k5⟩:=newRow _ b (grownCap l (b+k) h r) ((p.drop L).take (b*c.size)) Q k7 (λi e=>k2 i (a5n (a4Z e))) t;exact .value (iS z C D E g (by rw[k1];exact W)) k5 (.al _ _ _ _ k0 t) (d _ _ n P.en t l0 k4)
  . exact d.elim
end
variable{b0:Type}
section
variable  {o:Oper}{a:Act}   
def U.set_set (c:U) (b:Nat) (h d:bp):(c.set b h).set b d=c.set b d:=by funext k;simp only[U.set];split<;>rfl
theorem HL (c:TypeId) (b:Operand) (r:o.op= .box c b) (x:aT b=true) (y:bL u a j) (d:Holds u f l) (h:G ⟨m,s⟩ (.kh c b) j f a7):bR m s o a l u f a7:=by obtain⟨z,C⟩:=(y.aj b x).cells h.1;have k:=Step.new d (a.eval b).cells c _ C z;obtain⟨D,p⟩:=Step.freeze k.holds (U.ah f l.heap.size (.cells (aj j b).cells));rw[U.set_set]at p;refine .value (v:= .pointer (some ⟨l.heap.size,0,none⟩)) (h8:=l.alloc (.cells (a.eval b).cells c)) ?_ (k.trans p) (.ptr _ _) (h.2 _ d.en);simp[execOp,r,Instr.box,newVar,newRow]
theorem HM (p:TypeId) (c:Operand) (d h:Option Operand) (z:o.op= .slice p c d h none) (r:Nat) (x:TypeId) (C:m.underlying p=some (.array r x)) (k:Nat) (D:(m.info? x).map (·.size)=some k) (E:0<k) (F:aT c=true) (L:d.all aT=true)
  (P:h.all aT=true) (S:bL u a j) (T:Holds u f l) (b:G ⟨m,s⟩ (.jE k r c d h) j f a7):bR m s o a l u f a7:=by
 refine Ai p c d h z r x C k D E true F L P S T ?_;simp only[G]at b|-;split at b
 case h_2=>exact b.elim
 rename_i V W e;split at b
 case h_2=>exact b.elim
 refine⟨b.1,b.2.1,b.2.2.1,?_⟩;have y:=b.2.2.2;split at y
 case h_2=>exact y.elim
 simp_all [U.read,if_pos,Ah]
theorem Ap (h:Bool) (P:IntKind) (b c:Operand) (S:Array TypeId) (k:o.op= .call {callee:= .builtin (if h then .max else .min),args:= #[b,c],argTypes:=S}) (T:aT b=true) (V:aT c=true) (p:bL u a j) (r:Holds u f l) (d:G ⟨m,s⟩ (.lK h P b c) j f a7):bR m s o a l u f a7:=by
 have x:=p.aj b T;have y:=p.aj c V;simp only[G]at d;split at d
 case h_2=>exact d.elim
 rename_i z C g D W e;rw[W]at x;rw[e]at y;have E:=x.dU;have F:=y.dU;obtain⟨rfl,L⟩:=d;cases h
 .refine .same r (v:= .int z (min C D)) ?_ (.v _ rfl) (by simpa using L);simp only[execOp,k,resolve,invoke,builtin,a5Q,if_false,Sem.run_bind,Sem.run_pure,Result.andThen_ok,List.map_toArray,a5h,a6y,E,F,run_min_int2];grind
 .refine .same r (v:= .int z (max C D)) ?_ (.v _ rfl) (by simpa using L);simp only[execOp,k,resolve,invoke,builtin,if_true,Sem.run_bind,Sem.run_pure,Result.andThen_ok,List.map_toArray,a5h,a6y,E,F,run_max_int2];grind
def Aq: ∀ {h:List R}{d:List UInt8},bytesOf h=some d->h=d.map ak
 | [],d,b=>by simp only[bytesOf,a4S]at b;subst b;rfl
 |r::h,d,b=>by
  simp only[bytesOf]at b;split at b
  case h_2=>cases b
  rename_i x aR c k;obtain rfl:=a4G b;rw[Aq k,a5h];congr 1;unfold byteOf at c;split at c
  .rename_i p;split at c
   .rename_i y;obtain rfl:=a4G c;simp only[ak];congr 2;have:p.toNat<256:=a9p;simp[a6v this];omega
   .cases c
  .cases c
theorem rE (b:List UInt8):flat (b.map ak)=b.map ak:=by
 induction b with
 |nil=>rfl
 |cons c b ih=>simp only[flat,a5h,a5l]at ih|-;rw[ih];rfl
theorem HN (d h:TypeId) (k:Operand) (w:o.op= .convert d h k) (x:TypeId) (E:m.underlying d=some (.slice x)) (F:m.underlying x=some (.int .u8)) (L:m.underlying h=some .string) (A:aT k=true) (B:bL u a j) (e:Holds u f l) (p:G ⟨m,s⟩ (.q5 k) j f a7):bR m s o a l u f a7:=by
 have C:=B.aj k A;simp only[G]at p;split at p
 case h_2=>exact p.elim
 rename_i H g I;rw[I]at C;split at p
 case h_2=>exact p.elim
 rename_i b K;have M:=Aq K;subst M;generalize P:a.eval k=y at C;have S: ∀y,(convert d h y).run m l= .ok (.string ⟨b.toArray⟩) l->a.eval k=y->bR m s o a l u f a7:=λy N O=>
  .same e (v:= .string ⟨b.toArray⟩) (by simp[execOp,w,O,N]) (.v _ rfl) p
 cases T:b with
 |nil=>
  subst T;cases C with
  |di D c g bP Q=>
   refine S _ ?_ P;rw[run_convert_bytes_string l d h x D 0 c E F L];cases D with
   |none=>simp[Conv.bytesToString];rfl
   |some D=>have:=run_bytesToString (P:=m) l D 0 c [] (by simp[loadCells,loadCellsFrom]);rw[this];rfl
  |J z V len c i n H g X hlen Y k6 Z q t Q=>refine S _ ?_ P;subst hlen;rw[run_convert_bytes_string l d h x _ _ c E F L];have:=run_bytesToString (P:=m) l ⟨z,V,none⟩ 0 c [] (by simp[loadCells,loadCellsFrom]);simp only[a6y,a4R];rw[this];rfl
 |cons j9 k7=>
  obtain⟨z,V,c,i,n,k0,X,Y,k1,Z,q,t,_⟩:=C.vU (by rw[T];simp);have k2:i=1:=by have:=k1 (ak j9) (by rw[T];simp);rw[<-this];rfl
  subst k2;refine S y ?_ P;rw[k0];have k8:=run_convert_bytes_arg (P:=m) l d x E F z V (b.map ak).length c (b.map λz=>(z.toNat:Int)) a9q (λr k3=>by
   have W:r<b.length:=by simpa using k3
   have k4:=e.ro _ _ _ (q r (by simpa using W));rw[k4];have v:=t r (ak b[r]) (by rw[rE];simp[W]);have k5:n r= .int .u8 (b[r].toNat):=by unfold ak at v;exact v.dU
   rw[k5];simp[List.getD,W]) h L
  simp_all [strOfNums,a6J,List.map_id,a6p]
theorem vZ {p:Type} (b:List p): ∀(d c:Nat),c<d*b.length->(List.replicate d b).flatten[c]? =b[c%b.length]?
 |0,c,h=>by simp at h
 |d+1,c,h=>by
  rw[a6O,a6A];by_cases k:c<b.length
  .rw[a6D k,a6v k]
  .rw[a7H a9p,vZ b d (c - b.length) (by rw[a9j]at h;omega)];grind[Nat.mod_eq_sub_mod]
theorem jH (b:List b0) (c:Nat):(List.replicate c b).flatten.length=c*b.length:=by simp
theorem HO (z:TypeId) (c k:Operand) (W:o.op= .makeSlice z c k) (p:TypeId) (e:m.underlying z=some (.slice p)) (b:TypeInfo) (g:m.info? p=some b) (d:Value) (i:b.zero=some d) (r:d.cells.size=b.size) (Z: ∀c∈d.cells.toList,c.oneCell'=true) (D:0<b.size)
  (n:aT c=true) (q:aT k=true) (E:bL u a j) (F:Holds u f l) (x:G ⟨m,s⟩ (.kk b.size b.bytes (d.cells.toList.map cY) c k) j f a7):bR m s o a l u f a7:=by
 have L:=E.aj c n;have P:=E.aj k q;simp only[G]at x;split at x
 case h_2=>exact x.elim
 rename_i t h v j9 w A;rw[w]at L;rw[A]at P;have B:=L.dU;have H:=P.dU;obtain⟨rfl,I,K,M,N⟩:=x;have O:=run_make (P:=m) l z p b d e g i t v h h I (a8n _) (by rw[Int.mul_comm];exact M) K;have Q:br u (madeCells d.cells (h.toNat*b.size)) (List.replicate h.toNat (d.cells.toList.map cY)).flatten:=by
  have S:(d.cells.toList.map cY).length=b.size:=by simp[r]
  refine br.dT.2 ⟨by simp[size_madeCells,jH,r],λT c k0 y X=> ?_⟩;have V:T<h.toNat*b.size:=by grind[List.getElem?_eq_some_iff,jH]
  rw[vZ _ _ _ (by rw[S];exact V),S,a5j]at X;rw[a6g]at y;have k1:T%b.size<d.cells.size:=by rw[r];exact a6S _ D
  simp only[madeCells,r]at y;rw[a8o]at y;simp only[a8Z,V,if_true,a5M,a4S]at y;grind[Array.getElem?_eq_getElem,Option.some.injEq,aZ.cY]
 refine .value (v:= .slice (some ⟨l.heap.size,0,none⟩) h.toNat h.toNat) (by simp[execOp,W,B,H,O]) (Step.new F _ p _ (λk2 C=> ?_) Q) (.al _ _ _ _ D (a5k _)) (N _ F.en);obtain⟨k3,Y,C⟩:=a8z.1 C;obtain rfl:=(List.mem_replicate.1 Y).2;obtain⟨c,_,rfl⟩:=a5d.1 C;exact nK c
theorem HP (N k3:TypeId) (z C:Operand) (k4:o.op= .call {callee:= .builtin .copy,args:= #[z,C],argTypes:= #[N,k3]}) (x:TypeId) (k5:m.underlying N=some (.slice x)) (S:Nat) (O:(m.info? x).map (·.size)=some S)
  (k6:aT z=true) (k7:aT C=true) (Q:bL u a j) (i:Holds u f l) (h:G ⟨m,s⟩ (.mz S z C) j f a7):bR m s o a l u f a7:=by
 have y:=Q.aj z k6;have E:=Q.aj C k7;simp only[G]at h;have a05: ∀(k r c F d:Nat) (b L:List R) (n:Own),aZ u (a.eval C) (.J b n)->a.eval z= .slice (some ⟨k,r,none⟩) c F->d=S->(∀x∈b,x.cells.length=S)->f k=some (.cells L)->r+c*S<=L.length->
   a7 (.v (.int .i64 (min b.length c))) (f.set k (.cells (putAt L r (flat (b.take c)))))->bR m s o a l u f a7:=by
  intro k r c F d b L n E A k8 P B a06 k9;subst k8;have l0: ∀x∈b.take c,x.cells.length=d:=λx V=>P x (a4Z V);have a07:(flat (b.take c)).length=(min b.length c)*d:=by rw[dg l0,a4L,Nat.min_comm]
  have a08:min b.length c*d<=c*d:=a4Y _ a9p;have l1: ∃D:Array Value,(Builtin.firstCells d (min b.length c) (a.eval C)).run m l= .ok D l/\br u D (flat (b.take c))/\(∀H∈flat (b.take c),H.one=true)/\(Builtin.lenOf (a.eval C)).run m l= .ok b.length l:=by
   obtain⟨q,W,l2,a09,l3⟩:=E.src i P m;have a10:flat (b.take c)=(flat b).take (c*d):=((fZ c P).2).symm;have a11:(flat b).length=b.length*d:=dg P;generalize a13:a.eval C=l4 at E W;have l5:(Builtin.firstCells d (min b.length c) l4).run m l= .ok (q.take (min b.length c*d)).toArray l:=by
    cases E with
    |di l6 X dn bP l7=>have:q= []:=a4N (by rw[l2];simp[flat]);subst this;cases l6<;>simp[Builtin.firstCells,loadCells,loadCellsFrom]
    |J Y Z len X e t xs dn a14 l8 a15 a16 a18 hH a19 l7=>
     subst l8;have a27: ∀p v,q[p]? =some v->l.cell? ((⟨Y,Z,none⟩:Addr).add p)=some v:=by
      intro p v g;have l9:p<(flat b).length:=by grind
      have w:=W.cells;by_cases j9:b= []
      .subst j9;simp[flat]at l9
      have n0:e=d:=by
       match b,j9 with
       |a29::a30,_=>simp_all
      subst n0;have n1:=run_firstCells_some (P:=m) l e b.length ⟨Y,Z,none⟩ b.length X ((List.range (b.length*e)).map t) a9q (λp v y=>by
       have g:p<b.length*e:=by grind
       rw[a5j,a7a g]at y;obtain rfl:t p=v:=by simpa using y
       rw[hi];exact i.ro _ _ _ (hH p g))
      rw[n1]at w;simp only[Result.ok.injEq,and_true]at w;have n2:(List.range (b.length*e)).map t=q:=by simpa using congrArg Array.toList w
      rw[<-n2,a5j,a7a a9p]at g;obtain rfl:t p=v:=by simpa using g
      rw[hi];exact i.ro _ _ _ (hH p a9p)
     grind[run_firstCells_some,min,Nat.mul_le_mul_right]
   refine⟨_,l5,br.dT.2 ⟨?_,λp z a34 a36 a38=> ?_⟩,λH w=>l3 H (by grind),W.len⟩;simp_all;grind
  obtain⟨D,n3,I,k0,n4⟩:=l1;obtain⟨k1,T,n5,a42,n9⟩:=Step.store i B r (flat (b.take c)) D I k0 a9p;refine .value (v:= .int .i64 (min b.length c)) ?_ n9 (.v _ rfl) k9;have k2:=run_storeCells_at m k r T D.toList 0 k1 l n5 (by have:=I.1;simp;omega) (I.nI k0);simp only[a6x]at k2;have a00:(storeCells ⟨k,r,none⟩ D.toList).run m l= .ok () (l.setRow k (cX k1 r D.toList)):=by rw[k2];rfl
  cases K:m.info? x with
  |none=>simp[K]at O
  |some ii=>
   have W:ii.size=d:=by simpa[K] using O
   have a01:Nat.min b.length c=min b.length c:=rfl;simp[execOp,k4,resolve,invoke,builtin,A,Builtin.copy_,run_underlying k5,n4,sizeOf,typeInfo,K,W,a01,n3,a00,goInt];omega
 split at h
 .rename_i k r c F d b n V M;rw[V]at y;rw[M]at E;obtain⟨rfl,P,h⟩:=h;split at h
  case h_2=>exact h.elim
  rename_i L B;generalize A:a.eval z=a02 at y;cases y with
  |bw k r c F d a03 a04=>grind
 .rename_i k c F d b n V M;rw[V]at y;rw[M]at E;obtain⟨rfl,P,h⟩:=h;split at h
  case h_2=>exact h.elim
  rename_i L B;generalize A:a.eval z=a02 at y;cases y with
  |al k c F d a03 a04=>grind
 .exact h.elim
def HQ (D:Bool) (F:TypeId) (k:Operand) (g:TypeId) (S:o.op= .binOp (if D then .neq else .eql) F k (.const (.slice none 0 0)) g) (T:TypeId) (i:m.underlying F=some (.slice T)) (n:aT k=true) (q:bL u a j) (d:Holds u f l)
  (b:G ⟨m,s⟩ (.mA D k) j f a7):bR m s o a l u f a7:=by
 have r:=q.aj k n;have V: ∀v,a.eval (.const v)=v:=λ_=>rfl;have L: ∀c x C,a.eval k= .slice c x C->(execOp a.eval o).run m l= .ok (.value (.bool (xor D c.isNone))) l:=λc x C p=>by
  have W:=run_equalIn_slice_nil (P:=m) l 9999 F T c x C i;cases D
  .simp[execOp,S,p,V,eqGuard,binOp,Op.equal,Op.maxDepth,W]
  .simp[execOp,S,p,V,eqGuard,binOp,Op.equal,Op.maxDepth,W]
 simp only[G]at b;split at b
 case h_3=>exact b.elim
 case h_2=>
  rename_i t x y e P;rw[P]at r;generalize p:a.eval k=w at r;cases r with
  |al t x y e I A=>exact .same d (L _ x y p) (.v _ rfl) (by simpa using b)
 rename_i B E P;rw[P]at r;generalize p:a.eval k=w at r;cases r with
 |di c y E bP z=>
  have h:=L c 0 y p;cases E with
  |nil=>simp only[Own.lH]at z;subst z;exact .same d h (.v _ rfl) (by simpa using b)
  |buf H C=>exact z.elim
  |any=>cases c with
   |none=>exact .same d h (.v _ rfl) (by simpa using b.1 rfl)
   |some c=>exact .same d h (.v _ rfl) (by simpa using b.2)
  |zero=>cases c with
   |none=>exact .same d h (.v _ rfl) (by simpa using b.1 rfl)
   |some c=>exact .same d h (.v _ rfl) (by simpa using b.2)
 |J K off len y e M B E hk hlen A N O hH Q z=>
  have h:=L _ len y p;cases E with
  |nil=>exact z.elim
  |buf H C=>exact .same d h (.v _ rfl) (by simpa using b)
  |any=>exact .same d h (.v _ rfl) (by simpa using b.2)
  |zero=>exact z.elim
theorem HR (k F:TypeId) (y:Operand) (z:o.op= .convert k F y) (c:TypeId) (L:m.underlying k=some .string) (W:m.underlying F=some (.slice c)) (e:m.underlying c=some (.int .u8)) (g:aT y=true) (i:bL u a j) (C:Holds u f l) (D:G ⟨m,s⟩ (.q6 y) j f a7):bR m s o a l u f a7:=by
 have p:=i.aj y g;simp only[G]at D;split at D
 case h_2=>exact D.elim
 rename_i b P;rw[P]at p;have n:=p.dU;have q:=run_bytes_of_string l k F c b L W e;have t:(execOp a.eval o).run m l= .ok (.value (.slice (some ⟨l.heap.size,0,none⟩) b.size (grownCap l b.size 0 c))) (l.drew.alloc (.cells (bytesRow b (grownCap l b.size 0 c)) c ((bytesRow b (grownCap l b.size 0 c)).size,(bytesRow b (grownCap l b.size 0 c)).size+1))):=by simp[execOp,z,n,q]
 have w:=grownCap_ge l b.size 0 c;generalize grownCap l b.size 0 c=S at*;have A:b.size<=(bytesRow b S).size:=by
  have:b.data.size=b.size:=rfl;simp[bytesRow]
  try omega
 have B: ∀d (h:d<b.size),(bytesRow b S)[d]? =some (.int .u8 ((b.data[d]'h).toNat)):=λd h=>by
  simp_all [bytesRow,a7l,a8o,a6E]
 generalize bytesRow b S=r at*;have k:=Step.write (h8:=l.drew.alloc (.cells r c (r.size,r.size+1))) C.drew l.heap.size b.size r c f rfl rfl rfl a9q (heap_alloc_new l.drew _) (λE _ T=>pW l.drew _ E T) (.inl rfl)
   A (λo v p=>by rw[C.mx]at p;cases p) (λM o N L=>L)
   (λo z=>by rw[C.en]at z;cases z)
 refine .value t ((Step.drew C).trans k) ?_ D;by_cases H:b.size=0
 .have:b.data.toList= []:=by simp_all
  rw[H,this];exact .di _ _ _ (λI=>by cases I) trivial
 .refine .J _ _ _ _ 1 (λd=>r.getD d undef) _ _ a9p ?_ w (λc P=> ?_) (λO V=> ?_) (λd h=> ?_) (λd Q x=> ?_) trivial;simp
  .obtain⟨E,_,rfl⟩:=a5d.1 P;rfl
  .rw[rE]at V;obtain⟨E,_,rfl⟩:=a5d.1 V;rfl
  simp_all [a5t,a5e,bl.oP]
  .rw[rE,a5j]at x;have h:d<b.size:=by rw[a7y]at x;obtain⟨E,T,_⟩:=x;have:=(a4P.1 T).1;rwa[a7J]at this
   have K:d<b.data.size:=h;rw[a6g,a6E K,a5M,a4S]at x;subst x;rw[a5u,B d h];exact .v _ rfl
end
section
variable  {o:Oper}{a:Act}   
def bL.map (p:bL u a j) {b:Array Operand} (r: ∀d∈b.toList,aT d=true):br u (b.map a.eval) (b.toList.map (Go.bA.aj j)):=by
 refine br.dT.2 ⟨a9q,λx d y c h=> ?_⟩;rw[a7p,a5j]at c;rw[a5j]at h;cases k:b.toList[x]? with
 |none=>simp[k]at c
 |some op=>
  rw[k]at c h;obtain rfl:a.eval op=d:=by simpa using c
  obtain rfl:Go.bA.aj j op=y:=by simpa using h
  exact p.aj op (r op (a4O k))
theorem br.append {b:Array Value} (c:br u j8 g) (d:br u b A):br u (j8++b) (g++A):=by rw[br.dT]at c d|-;grind
theorem HS (b:FuncId) (first c:Array Operand) (r:o.op= .makeFunc (.func b) first c) (x: ∀d∈first.toList,aT d=true) (y: ∀d∈c.toList,aT d=true) (h:bL u a j) (z:Holds u f l)
  (C:G ⟨m,s⟩ (.bG b first.toList c.toList) j f a7):bR m s o a l u f a7:=by
 have k:=h.map x;have p:=h.map y;refine .same z (v:= .func (.func b) (first.map a.eval) (c.map a.eval)) ?_ (.bG b _ _ _ _ k.1 k.2 p.1 p.2) C;simp only[execOp,r,Instr.makeFunc,Sem.run_bind,Sem.run_pure,Result.andThen_ok]
theorem HT (b:Operand) (args:Array Operand) (D:Array TypeId) (E:o.op= .call {callee:= .value b,args,argTypes:=D}) (F:aT b=true)
  (L: ∀b∈args.toList,aT b=true) (p:bL u a j) (r:Holds u f l) (c:G ⟨m,s⟩ (.iR b args.toList) j f a7):bR m s o a l u f a7:=by
 intro w A;have h:=p.aj b F;simp only[G]at c;split at c
 case h_2=>exact c.elim
 rename_i k x y P;obtain⟨S,c⟩:=c;obtain⟨d,T,V,W⟩: ∃d,m.funcs[k]? =some d/\d.body.isSome/\d.name≠ "runtime.NumGoroutine" :=by unfold gk at S;grind
 rw[P]at h;generalize e:a.eval b=B at h;cases h with
 |bG k ws z x y hw g i n=>
  have q:br u (ws++args.map a.eval++z) (x++args.toList.map (aj j)++y):=br.append (br.append ⟨hw,g⟩ (p.map L)) ⟨i,n⟩;have t:=c _ l u q r;have v:(execOp a.eval o).run m l= .ok (.enter k (ws++args.map a.eval++z)) l:=by
   cases C:d.body with
   |none=>simp[C]at V
   |some H=>simp[execOp,E,resolve,e,Deferred.ofValue,invoke,callFunc,T,W,C]
  unfold Oper.wp;rw[v];exact t.mono λI K r=>by
   grind
def HU (b:TypeId) (c:Operand) (h:o.op= .makeInterface b c) (d:TypeDesc) (k:m.underlying b=some d) (p: ∀r,d≠ .interface r) (x:aT c=true) (y:bL u a j) (z:Holds u f l) (C:G ⟨m,s⟩ (.q7 b c) j f a7):bR m s o a l u f a7:=by
 refine .same z (v:= .iface b (a.eval c)) ?_ (.iface b _ _ (y.aj c x)) C;cases d<;>first
  |exact absurd rfl (p _)
  |simp[execOp,h,Instr.makeInterface,run_underlying k]
def HV (b:Operand) (r:o.op= .panic b) (x:aT b=true) (y:bL u a j) (z:Holds u f l) (c:G ⟨m,s⟩ (.mB b) j f a7):bR m s o a l u f a7:=by
 intro P C;have d:=y.aj b x;simp only[G]at c;split at c
 case h_2=>exact c.elim
 rename_i h D E;rw[E]at d;have k:=d;generalize F:a.eval b=p at d k;cases d with
 |iface h p D S=>
  have L:(execOp a.eval o).run m l= .halt (.panic (.iface h p)) l:=by simp[execOp,r,F,run_panic_iface]
  unfold Oper.wp;rw[L];exact C _ _ _ _ _ (.refl z) k c
def HW (d:TypeId) (b:Operand) (r:o.op= .range d b) (x:m.underlying d=some .string) (y:aT b=true) (z:bL u a j) (h:Holds u f l) (c:G ⟨m,s⟩ (.km b) j f a7):bR m s o a l u f a7:=by
 have k:=z.aj b y;simp only[G]at c;split at c
 case h_2=>exact c.elim
 rename_i p C;rw[C]at k;have D:=k.dU;refine .value (v:= .pointer (some ⟨l.heap.size,0,none⟩)) (h8:=l.alloc (.stringIter p 0)) ?_ (Step.A7 h _ (.it p 0) (heap_alloc_new l _)) (.ptr _ _) (c _ h.en);simp[execOp,r,D,Instr.range,run_underlying x]
theorem HX (x:Operand) (D:o.op= .next x true) (P:aT x=true) (S:bL u a j) (z:Holds u f l) (h:G ⟨m,s⟩ (.mC x) j f a7):bR m s o a l u f a7:=by
 have E:=S.aj x P;simp only[G]at h;split at h
 case h_2=>exact h.elim
 rename_i k i T;rw[T]at E;obtain⟨rfl,h⟩:=h;have F:=E.mK;split at h
 case h_2=>exact h.elim
 rename_i d c L;have p:l.heap[k]? =some (.stringIter d c):=z.dS k _ L;have n:k<l.heap.size:=(a6a.1 p).1;by_cases y:c<d.size
 .rw[if_pos y]at h;have V:=Step.A8 z (c:= .stringIter d (c+(Utf8.decode d c).2)) (Y:= .it d (c+(Utf8.decode d c).2)) (by simp[L]) p (λq t j W=>by cases W) (by
   show(l.heap.setIfInBounds k _)[k]? = _;simp_all)
  refine .value (v:= .tuple #[.bool true,.int .i64 c,.int .i32 (Utf8.decode d c).1]) ?_ V (.aL _ _ rfl (λr e b=> ?_)) h
  .have C:(getObj k).run m l= .ok (.stringIter d c) l:=by simp[getObj,Sem.run,p]
   have g:(setObj k (.stringIter d (c+(Utf8.decode d c).2))).run m l= .ok () {l with heap:=l.heap.setIfInBounds k (.stringIter d (c+(Utf8.decode d c).2))}:=by simp[setObj,Sem.run,p]
   simp[execOp,D,F,Instr.next,C,y,g,goInt]
  .match r,b with
   |0,b=>simp at b;subst b;exact .v _ rfl
   |1,b=>simp at b;subst b;exact .v _ rfl
   |2,b=>simp at b;subst b;exact .v _ rfl
   |r+3,b=>simp at b
 .rw[if_neg y]at h;refine .same z (v:= .tuple #[.bool false]) ?_ (.aL _ _ rfl (λr e b=> ?_)) h
  .have C:(getObj k).run m l= .ok (.stringIter d c) l:=by simp[getObj,Sem.run,p]
   simp[execOp,D,F,Instr.next,C,y]
  .match r,b with
   |0,b=>simp at b;subst b;exact .v _ rfl
   |r+1,b=>simp at b
end
section
def qc (b:Program) (p:Nat) (c:TypeId) (d:List c5):Prop:=
 ∀(r:Bool) (x:Nat) (a:World) (h:Array Value) (k:Nat),fc d ((h.toList.drop k).take d.length)->
  ∃o,(part c h k).run b a= .ok o a/\(Instr.checkKey r (x+p) c o).run b a= .ok () a
def w0 {d:c5}{h:TypeDesc} (k:m.underlying b2=some h) (o:h.isRow=false) (p: ∀c r a b,d.fit a->(Instr.checkKey c (r+1) b2 a).run m b= .ok () b):qc m (e+1) b2 [d]:=by intro c x b D E y;obtain⟨a,z,C,F⟩:=one_cell y;exact⟨a,nO k o _ _ _ z b,p c (x+e) a b C⟩
theorem HY (a:m.underlying b2=some (.int e2)):qc m (e+1) b2 [.int e2]:=
 w0 a rfl λb c d h k=>by
  simp_all [Instr.checkKey,run_underlying]
theorem HZ (a:m.underlying b2=some .bool):qc m (e+1) b2 [.bool]:=
 w0 a rfl λb c d h k=>by
  simp_all [Instr.checkKey,run_underlying]
theorem I0 (a:m.underlying b2=some .string):qc m (e+1) b2 [.str]:=
 w0 a rfl λb c d h k=>by
  simp_all [Instr.checkKey,run_underlying]
theorem w1: ∀(d:Nat) (c:TypeId) (k:List c5),flatK m d c=some k->m.cellsOf c=k.length->(m.info? c).isSome->qc m d c k
 |0,c,k,b,_,_=>by simp[flatK]at b
 |d+1,c,k,b,L,j=>by
  simp only[flatK]at b;cases hu:m.underlying c with
  |none=>simp[hu]at b
  |some desc=>
   simp only[hu]at b;cases desc<;>simp only[]at b<;>first
    |(cases b;done)
    |skip
   case int N=>obtain rfl:=a4G b;exact HY hu
   case bool=>obtain rfl:=a4G b;exact HZ hu
   case string=>obtain rfl:=a4G b;exact I0 hu
   case array o t=>
    split at b
    case h_2=>cases b
    rename_i a T;split at b
    case isFalse=>cases b
    rename_i p;obtain rfl:=a4G b;have ih:=w1 d t a T p.1 p.2;obtain⟨x,C⟩:=a5A.1 j;obtain⟨u,v⟩:=a5A.1 p.2;have O:u.size=a.length:=by simpa[Program.cellsOf,v] using p.1
    have D:x.size=(List.replicate o a).flatten.length:=by simpa[Program.cellsOf,C] using L
    intro V y E z h F;refine⟨_,lP hu rfl C z h E,?_⟩;rw[show y+(d+1)=(y+d)+1 by omega,Instr.checkKey];simp only[Sem.run_bind,run_underlying hu,Result.andThen_ok];simp only[Std.Legacy.Range.forIn_eq_forIn_range',Std.Legacy.Range.size,Nat.sub_zero,Nat.add_one_sub_one,Nat.div_one];have r:fc (List.replicate o a).flatten (((z.extract h (h+x.size)).toList.drop (0*a.length)).take (List.replicate o a).flatten.length):=by rw[a8g,a6U,rD,D,a5Y,a6Y];exact F
    clear F D L b hu;generalize z.extract h (h+x.size)=W at r|-;generalize (0:Nat)=P at r|-
    induction o generalizing P with
    |zero=>simp
    |succ o Q=>simp only[a6O,a6A]at r;obtain⟨G,S⟩:=oT r;have e:min a.length (a++(List.replicate o a).flatten).length=a.length:=a9q;have f:(a++(List.replicate o a).flatten).length - a.length=(List.replicate o a).flatten.length:=a9q;rw[a5Y,e]at G;rw[a6f,a5B,f,show P*a.length+a.length=(P+1)*a.length by rw[a5J,a7g]]at S;obtain⟨w,g,l⟩:=ih V y E W (P*a.length) G;simp_all [List.range'_succ,List.forIn_cons,Sem.run_bind,run_sizeOf,Result.andThen_ok,Sem.run_pure]
   case struct A=>
    split at b
    case isTrue=>cases b
    obtain⟨x,C⟩:=a5A.1 j;have D:x.size=k.length:=by simpa[Program.cellsOf,C] using L
    intro V y E z h F;refine⟨_,lP hu rfl C z h E,?_⟩;rw[show y+(d+1)=(y+d)+1 by omega,Instr.checkKey];simp only[Sem.run_bind,run_underlying hu,Result.andThen_ok];rw[<-Array.forIn_toList];have r:fc k (((z.extract h (h+x.size)).toList.drop 0).take k.length):=by rw[a6U,rD,D,a5Y,a6Y];exact F
    have ih: ∀c a,flatK m d c=some a->m.cellsOf c=a.length->(m.info? c).isSome->qc m d c a:=λc a B H I=>w1 d c a B H I;clear F D L hu;generalize z.extract h (h+x.size)=W at r|-;generalize (0:Nat)=n at r b;generalize A.toList=q at b|-
    induction q generalizing n k with
    |nil=>simp
    |cons X q K=>
     simp only[qa]at b;split at b
     case isFalse=>cases b
     rename_i s;split at b
     case h_2=>cases b
     rename_i a i T M;split at b
     case isFalse=>cases b
     rename_i p;obtain rfl:=a4G b;obtain⟨G,S⟩:=oT r;have e:min a.length (a++i).length=a.length:=a9q;have f:(a++i).length - a.length=i.length:=a9q;rw[a5Y,e]at G;rw[a6f,a5B,f,<-p.1]at S;obtain⟨w,g,l⟩:=ih _ _ T p.1 p.2 V y E W n G;rw[<-s.1]at g;simp only[List.forIn_cons,Sem.run_bind,s.2,ne_eq,not_false_eq_true,if_true,Result.andThen_ok,g,l,Sem.run_pure];exact K _ _ S M
def I1 {a:c5} (b:a.fit e4) (c:Nat):Instr.sameBits c e4 e4=true:=by
 cases a<;>cases e4<;>first
  |exact b.elim
  |(simp[Instr.sameBits];done)
  |(simp only[Instr.sameBits];exact(Go.MapKept.bytes_beq _ _).2 rfl)
theorem I2: ∀ {b:List c5},fc b j8.toList->Instr.sameBits (e+1) (.agg j8) (.agg j8)=true:=by
 intro b d;simp only[Instr.sameBits,beq_self_eq_true,a6m];rw[a4W];have: ∀(b:List c5) (a:List Value),fc b a-> ∀h∈a.zip a,Instr.sameBits e h.1 h.2=true:=by
  intro b
  induction b with
  |nil=>intro a d h c;cases a with
   |nil=>cases c
   |cons _ _=>exact d.elim
  |cons k b ih=>intro a d h c;cases a with
   |nil=>cases c
   |cons o a=>
    rcases a5i.1 c with rfl|c
    .exact I1 d.1 e
    .exact ih a d.2 h c
 grind
def ft (a:bl):List MapEntry->List (R×R×Nat)->Prop
 | [],[]=>True
 |b::es,c::us=>rv a b c/\ft a es us
 | _,_=>False
def nJ.list {o:bl}: ∀ {d:List MapEntry}{h:List (R×R×Nat)},d.length=h.length->(∀(k:Nat) (a:MapEntry) (b:R×R×Nat),d[k]? =some a->h[k]? =some b->rv o a b)->ft o d h
 | [],[],_,_=>trivial
 |a::d,b::h,c,p=>⟨p 0 a b rfl rfl,nJ.list (by simpa using c) λk a b r x=>p (k+1) a b (by simpa using r) (by simpa using x)⟩
 | [],_:: _,c,_=>by simp at c
 | _:: _,[],c,_=>by simp at c
theorem Ar {C:bl}{x:Nat}{h:TypeId}{k:List (Nat×c5)} (i:flatK m x h=some (jG k)) (N:x<=10000) (T:m.cellsOf h=(jG k).length) (V:(m.info? h).isSome) {j:TypeDesc} (L:m.underlying h=some j) (l:j.isRow=true)
  {W:Value}{o:List R} (O:aZ C W (.agg o)) (n:dB k o) (y:World): ∀(D:List MapEntry) (E:List (R×R×Nat)) (c:Nat),ft C D E->(∀F∈E,∃z,F.1= .agg z/\dB k z)->
  ∃d,(Instr.findAsking h W D c).run m y= .ok d y/\(match dx E (.agg o) c with
   |none=>d=none
   |some (e,v)=> ∃p,d=some (e,p.val)/\c<=e/\D[e - c]? =some p/\p.key=W/\aZ C p.val v)
 | [],[],c,_,_=>⟨none,by simp[Instr.findAsking],rfl⟩
 | [],_:: _,_,a,_=>a.elim
 | _:: _,[],_,a,_=>a.elim
 |p::D,F::E,c,a,q=>by
  obtain⟨⟨f,l3,l4⟩,Q⟩:=a;obtain⟨z,s,X⟩:=q F a9q;rw[s]at f;cases O with
  |agg b _ Y t u=>
   generalize w:p.key=l5 at f;cases f with
   |agg ws _ l6 Z j9=>
    have A:br C b o:=⟨t,u⟩;have B:br C ws z:=⟨Z,j9⟩;obtain⟨k0,k1⟩:=oU _ o b.toList n (br.dT.1 A).1 (br.dT.1 A).2;obtain⟨k2,k3⟩:=oU _ z ws.toList X (br.dT.1 B).1 (br.dT.1 B).2;have k4:b.size=(jG k).length:=by have:=nN k0;simpa using this
    have k5:ws.size=(jG k).length:=by have:=nN k2;simpa using this
    obtain⟨g,H⟩:=a5A.1 V;have I:g.size=(jG k).length:=by simpa[Program.cellsOf,H] using T
    obtain⟨l7,l8,d,P,S,K,l9⟩:=tx x h _ i T V (10000 - x) y b ws 0 (by grind) (by grind);rw[lP L l H]at P S;have k6:b.extract 0 (0+g.size)=b:=by rw[a5e,I,<-k4];simp
    have k7:ws.extract 0 (0+g.size)=ws:=by rw[a5e,I,<-k5];simp
    rw[k6]at P;rw[k7]at S;simp only[Result.ok.injEq,and_true]at P S;subst P;subst S;rw[show 10000 - x+x=10000 by omega]at K;have k8:(b=ws)↔d=true:=by grind[List.take_of_length_le,Array.toList_inj]
    have k9:peq (.agg o) (.agg z)=d:=by
     rw[a7v,rz,<-k8,k1,k3];constructor
     .intro a;have l0:=R.agg.inj a;have: ∀G r:List Value,G.map R.v=r.map R.v->G=r:=λG r a=>by
       induction G generalizing r with
       |nil=>cases r with
        |nil=>rfl
        |cons _ _=>cases a
       |cons n0 G ih=>cases r with
        |nil=>cases a
        |cons n1 r=>grind
      exact a7Y.1 (this _ _ l0)
     .rintro rfl;rfl
    obtain⟨l1,l2,n2⟩:=Ar i N T V L l (.agg b o Y t u) n y D E (c+1) Q λF L=>q F (by simp[L]);have M:(Op.equal h (.agg b) (.agg ws)).run m y= .ok d y:=K;simp only[dx,s,k9];cases d with
    |true=>refine⟨some (c,p.val),by simp[Instr.findAsking,w,M],?_⟩;grind
    |false=>refine⟨l1,by simp[Instr.findAsking,w,M,l2],?_⟩;grind
end
structure mL (a:Program) (b:TypeId) (rs:List (Nat×c5)):Prop where
 flat: ∃d,d<=10000/\flatK a d b=some (jG rs)
 size:a.cellsOf b=(jG rs).length
 info:(a.info? b).isSome
 row: ∃c,a.underlying b=some c/\c.isRow=true/\(match a.underlying b with|some (.array _ _)|some (.struct _)=>true| _=>false)=true
variable{j3:List (Nat × c5)}
section
theorem mL.check (a:mL m b2 j3) (r:aZ u e4 (.agg g)) (x:dB j3 g) (d:Bool) (c:World):(Instr.checkKey d 10000 b2 e4).run m c= .ok () c:=by
 obtain⟨h,S,y⟩:=a.flat;obtain⟨T,z,C,_⟩:=a.row;cases r with
 |agg b _ V D E=>
  have k:br u b g:=⟨D,E⟩;obtain⟨F,W⟩:=oU _ g b.toList x (br.dT.1 k).1 (br.dT.1 k).2;have G:b.size=(jG j3).length:=by have:=nN F;simpa using this
  obtain⟨o,p⟩:=a5A.1 a.info;have L:o.size=(jG j3).length:=by simpa[Program.cellsOf,p] using a.size
  obtain⟨e,P,f⟩:=w1 h b2 _ y a.size a.info d (10000 - h) c b 0 (by grind);rw[lP z C p]at P;have i:b.extract 0 (0+o.size)=b:=by rw[a5e,L,<-G];simp
  grind
theorem mL.find (a:mL m b2 j3) (r:aZ u e4 (.agg g)) (x:dB j3 g) (k:World) {b:List MapEntry}{c:List (R×R×Nat)} (y:ft u b c) (z: ∀C∈c,∃o,C.1= .agg o/\dB j3 o):
  ∃d,(Instr.findKey b2 e4 b).run m k= .ok d k/\(match dx c (.agg g) 0 with
   |none=>d=none
   |some (p,v)=> ∃h,d=some (p,h.val)/\b[p]? =some h/\h.key=e4/\aZ u h.val v):=by
 obtain⟨L,D,E⟩:=a.flat;obtain⟨P,F,G,S⟩:=a.row;obtain⟨d,T,V⟩:=Ar E D a.size a.info F G r x k b c 0 y z;grind[run_findKey_eq,dx,id]
def I3 {k o:TypeId} (p:m.underlying k=some (.map o b2)) (r:mL m o j3) {x:TypeInfo} (L:m.info? b2=some x) (P:x.zero=some e4) {y:Value} (z:aZ u y (.agg g)) (C:dB j3 g)
  {b:Array MapEntry} (D:l.heap[e]? =some (.map b i)) {a:List (R×R×Nat)} (S:ft u b.toList a) (T: ∀V∈a,∃E,V.1= .agg E/\dB j3 E) (c:Bool):
  ∃d,(Instr.lookup k (.map (some e)) y c).run m l= .ok d l/\(match dx a (.agg g) 0 with
   |none=>d=if c then .tuple #[e4,.bool false]else e4
   |some (_,v)=> ∃h,aZ u h v/\d=if c then .tuple #[h,.bool true]else h):=by
 obtain⟨s,F,W⟩:=r.find z C l S T;have G:=r.check z C b.isEmpty l;have f:(zeroValue b2).run m l= .ok e4 l:=by simp[zeroValue,typeInfo,L,P]
 revert W;cases dx a (.agg g) 0 with
 |none=>rintro rfl;exact⟨_,by simp[Instr.lookup,run_underlying p,MapKept.run_getObj_map D,G,F,f],rfl⟩
 |some j=>obtain⟨t,v⟩:=j;rintro⟨n,rfl,_,_,q⟩;exact⟨_,by simp[Instr.lookup,run_underlying p,MapKept.run_getObj_map D,G,F],n.val,q,rfl⟩
def ft.length: ∀ {a:List MapEntry}{b:List (R×R×Nat)},ft u a b->a.length=b.length
 | [],[],_=>rfl
 | _:: _,_:: _,c=>by simp[ft.length c.2]
theorem ft.set: ∀ {c:List MapEntry}{d:List (R×R×Nat)}{h:Nat}{b:MapEntry}{k o:Value}{v:R},ft u c d->c[h]? =some b->b.key=k->aZ u o v->
  ft u (c.modify h λb=> {b with key:=k,val:=o}) (d.modify h λp=>(p.1,v,p.2.2))
 | [],_,_,_,_,_,_,_,a,_,_=>by simp at a
 | _:: _,[],_,_,_,_,_,a,_,_,_=>a.elim
 |x::c,p::d,0,b,k,o,v,a,he,hk,r=>by
  simp at he;subst he;simp only[a8T];exact⟨⟨by rw[<-hk];exact a.1.1,r,a.1.2.2⟩,a.2⟩
 |x::c,p::d,h+1,b,k,o,v,a,he,hk,r=>by
  simp only[a8U];exact⟨a.1,ft.set a.2 (by simpa using he) hk r⟩
def ft.push: ∀ {b:List MapEntry}{c:List (R×R×Nat)}{d:MapEntry}{h:R×R×Nat},ft u b c->rv u d h->ft u (b++ [d]) (c++ [h])
 | [],[],_,_,_,a=>⟨a,trivial⟩
 | _:: _,_:: _,_,_,a,k=>⟨a.1,ft.push a.2 k⟩
theorem I4 {p S:TypeId} (r:m.underlying b2=some (.map p S)) (x:mL m p j3) {c:Value}{v:R} (d:aZ u e4 (.agg g)) (k:dB j3 g) (y:aZ u c v)
  {a:Array MapEntry} (h:l.heap[i]? =some (.map a e)) {b:List (R×R×Nat)} (o:ft u a.toList b) (T: ∀V∈b,∃z,V.1= .agg z/\dB j3 z):
  ∃C:Array MapEntry,(Instr.mapUpdate b2 (.map (some i)) e4 c).run m l= .ok () {l with heap:=l.heap.setIfInBounds i (.map C (kX b (.agg g) v e).2)}/\ft u C.toList (kX b (.agg g) v e).1:=by
 obtain⟨I,D,W⟩:=x.find d k l o T;have E:=x.check d k false l;unfold kX;revert W;cases dx b (.agg g) 0 with
 |none=>
  rintro rfl;refine⟨a.push {key:=e4,val:=c,born:=e},?_,?_⟩
  .simp[Instr.mapUpdate,run_underlying r,MapKept.run_getObj_map h,E,D,MapKept.run_setObj_map _ h]
  .simp only[Array.toList_push];exact o.push ⟨d,y,rfl⟩
 |some f=>
  obtain⟨F,K⟩:=f;rintro⟨G,rfl,j,n,M⟩;have q:Instr.sameBits 10000 e4 e4=true:=by
   cases d with
   |agg L _ N s t=>have P:br u L g:=⟨s,t⟩;obtain⟨w,O⟩:=oU _ g L.toList k (br.dT.1 P).1 (br.dT.1 P).2;have A:(10000:Nat)=9999+1:=rfl;rw[A];exact I2 w
  have B:(Instr.keyThatStays e4 e4).run m l= .ok e4 l:=by simp[Instr.keyThatStays,q]
  have H:((a[F]?).map (·.key)).getD e4=e4:=by simp_all
  refine⟨a.modify F λG=> {G with key:=e4,val:=c},?_,?_⟩
  .simp only[Instr.mapUpdate,Sem.run_bind,run_underlying r,Result.andThen_ok,MapKept.run_getObj_map h,E,D,H,B,MapKept.run_setObj_map _ h]
  .rw[Array.toList_modify];exact o.set j n y
end
section
variable  {o:Oper}{a:Act}   
def aZ.As (b:aZ u e4 (.gT e)):e4= .map (some e):=by cases b;rfl
def I5 (c:TypeId) (d:o.op= .makeMap c none) (b:Holds u f l) (h:G ⟨m,s⟩ .kn j f a7):bR m s o a l u f a7:=by refine .value (v:= .map (some l.heap.size)) (h8:=l.alloc (.map #[] 0)) ?_ (Step.A7 b _ (.mp [] 0) ⟨#[],heap_alloc_new l _,rfl,λp r x k=>by simp at k⟩) (.gT _) (h _ b.en);simp[execOp,d,Instr.makeMap]
def I6 (z C D:TypeId) (p r:Operand) (h:Bool) (e:o.op= .lookup z p r h) (g:m.underlying z=some (.map C D)) (i:mL m C j3) {E:TypeInfo} (q:m.info? D=some E) (t:E.zero=some e4) (F:aZ u e4 n)
  (w:aT p=true) (A:aT r=true) (L:bL u a j) (x:Holds u f l) (c:G ⟨m,s⟩ (.lM h j3 n p r) j f a7):bR m s o a l u f a7:=by
 have P:=L.aj p w;have S:=L.aj r A;simp only[G]at c;split at c
 case h_2=>exact c.elim
 rename_i B H I K;rw[I]at P;rw[K]at S;have M:=P.As;split at c
 case h_2=>exact c.elim
 rename_i T k6 N;obtain⟨O,Q,c⟩:=c;obtain⟨X,Y,Z,j9⟩:=x.dS B _ N;have k0:ft u X.toList T:=nJ.list (by simpa using Z) λd k1 y k2 k3=>j9 d k1 y (by simpa using k2) k3;obtain⟨v,k4,k⟩:=I3 (l:=l) g i q t S O Y k0 Q h;have V:(execOp a.eval o).run m l= .ok (.value v) l:=by simp[execOp,e,M,k4]
 revert c k;cases dx T (.agg H) 0 with
 |none=>
  intro c k;subst k;refine .same x V ?_ c;cases h with
  |false=>exact F
  |true=>exact .aL _ _ rfl (λd y b=>by
    match d,b with
    |0,b=>simp at b;subst b;exact F
    |1,b=>simp at b;subst b;exact .v _ rfl
    |d+2,b=>simp at b)
 |some k5=>
  obtain⟨d,k7⟩:=k5;intro c k;obtain⟨k8,W,rfl⟩:=k;refine .same x V ?_ c;cases h with
  |false=>exact W
  |true=>exact .aL _ _ rfl (λd y b=>by
    match d,b with
    |0,b=>simp at b;subst b;exact W
    |1,b=>simp at b;subst b;exact .v _ rfl
    |d+2,b=>simp at b)
theorem ft.ok {k:bl}: ∀ {p:List MapEntry}{r:List (R×R×Nat)},ft k p r-> ∀(d:Nat) (b:MapEntry) (c:R×R×Nat),p[d]? =some b->r[d]? =some c->rv k b c
 | _:: _,_:: _,h,0,b,c,he,hu=>by simp at he hu;subst he;subst hu;exact h.1
 | _:: _,_:: _,h,d+1,b,c,he,hu=>ft.ok h.2 d b c (by simpa using he) (by simpa using hu)
 | [],_,_,_,_,_,he,_=>by simp at he
theorem I7 (r P n:TypeId) (c d v:Operand) (h:o.op= .mapUpdate r c d v\/o.op= .insert r c d v) (q:m.underlying r=some (.map P n)) (t:mL m P j3)
  (w:aT c=true) (A:aT d=true) (B:aT v=true) (x:bL u a j) (S:Holds u f l) (b:G ⟨m,s⟩ (.lN j3 c d v) j f a7):bR m s o a l u f a7:=by
 have T:=x.aj c w;have V:=x.aj d A;have H:=x.aj v B;simp only[G]at b;split at b
 case h_2=>exact b.elim
 rename_i W y I K;rw[I]at T;rw[K]at V;have M:=T.As;split at b
 case h_2=>exact b.elim
 rename_i k z e;obtain⟨N,O,b⟩:=b;obtain⟨Q,C,X,Y⟩:=S.dS W _ e;have Z:ft u Q.toList k:=nJ.list (by simpa using X) λD p E F L=>Y D p E (by simpa using F) L;obtain⟨g,j9,i⟩:=I4 (l:=l) q t V N H C Z O;have k2:W<l.heap.size:=(a6a.1 C).1;have k0:=Step.A8 S (c:= .map g (kX k (.agg y) (Go.bA.aj j v) z).2) (Y:= .mp (kX k (.agg y) (Go.bA.aj j v) z).1 (kX k (.agg y) (Go.bA.aj j v) z).2) (by simp[e]) C (λk3 p j k1=>by cases k1)
  ⟨g,by
   simp_all,by simpa using i.length,λD p E F L=>i.ok D p E (by simpa using F) L⟩
 refine .skip ?_ k0 b;rcases h with h|h<;>simp[execOp,h,M,j9]
end
end Go.bA
