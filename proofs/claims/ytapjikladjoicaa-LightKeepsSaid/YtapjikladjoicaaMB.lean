/- Merged by program from smaller texts; what is proved stands in the last text of the claim. -/
import Derived.Test.YtapjikladjoicaaMA
import Derived.Test.YtapjikladjoicaaProg
import Derived.KernelRfl
set_option linter.all false
/-
  Code over abstract values: blocks, loops, calls.
-/
namespace Go.Av
open Go

inductive Ex where
  | norm
  | exit (id : Nat)
  | ret

inductive ACode where
  | skip
  | plain (ops : List AOper)
  | draw (ops : List AOper) (order : List CO)
  | seq (a b : ACode)
  | cond (c : Operand) (a b : ACode)
  | block (id : Nat) (a : ACode)
  | loop (a : ACode)
  | exit (id : Nat)
  | ret

def nth (xs : List AOper) (i : Nat) : AOper := xs.getD i { dst := none, op := .mv (.const (.bool true)), guard := none }

def seqK (n : Fr → Hp → Prop) (K : Ex → Fr → Hp → Prop) : Ex → Fr → Hp → Prop
  | .norm => n
  | e => K e

def blockK (id : Nat) (K : Ex → Fr → Hp → Prop) : Ex → Fr → Hp → Prop
  | .exit j => if j = id then K .norm else K (.exit j)
  | e => K e

def awp (P : Program) : ACode → (Ex → Fr → Hp → Prop) → Fr → Hp → Prop
  | .skip, K => K .norm
  | .plain ops, K => runL P ops (K .norm)
  | .draw ops order, K => can P (nth ops) (K .norm) order
  | .seq a b, K => awp P a (seqK (awp P b K) K)
  | .cond c a b, K => fun f s => match ev f c with
    | .v (.bool t) => (t = true → awp P a K f s) ∧ (t = false → awp P b K f s)
    | _ => False
  | .block id a, K => awp P a (blockK id K)
  | .loop a, K => fun f s => ∃ (I : Fr → Hp → Prop) (m : Fr → Hp → Nat), I f s ∧ ∀ f s, I f s → awp P a (seqK (fun f' s' => I f' s' ∧ m f' s' < m f s) K) f s
  | .exit id, K => K (.exit id)
  | .ret, K => K .ret

/-! ### reading the model's code -/

def prepGuard (ops : Array Oper) (o : Oper) : Option (Option (Nat × Bool)) :=
  match o.guard with
  | none => some none
  | some (j, want) => match (ops[j]?).bind (·.dst) with
    | some g => some (some (g, want))
    | none => none

def dstOk (n : Nat) : Option Nat → Bool
  | some d => decide (d < n)
  | none => true

def prepOper (P : Program) (env : Env) (n : Nat) (ops : Array Oper) (o : Oper) : Option AOper :=
  match prepOp P env o, prepGuard ops o with
  | some ao, some g => if dstOk n o.dst = true then some { dst := o.dst, op := ao, guard := g } else none
  | _, _ => none

def mapAll {α β : Type} (f : α → Option β) : List α → Option (List β)
  | [] => some []
  | x :: r => match f x, mapAll f r with
    | some y, some ys => some (y :: ys)
    | _, _ => none

/-- the canonical order: what reads, as soon as may be; what adds, as late as may be -/
def pickIn (preds : Nat → List Nat) (done : List Nat) (p : Nat → Bool) (left : List Nat) : Option Nat := left.find? fun i => (preds i).all (fun j => done.contains j) && p i

def orderGo (preds : Nat → List Nat) (xs : Nat → AOper) : Nat → List Nat → List Nat → List Nat
  | 0, _, _ => []
  | fuel + 1, done, left =>
    match (pickIn preds done (fun i => isPure (xs i).op || isLoad (xs i).op) left).or ((pickIn preds done (fun i => !isAdder (xs i).op) left).or (pickIn preds done (fun _ => true) left)) with
    | some i => i :: orderGo preds xs fuel (i :: done) (left.filter (· != i))
    | none => []

def isReader (x : AOper) : Bool := isPure x.op || isLoad x.op

def marks (xs : Nat → AOper) (dp : Nat → Nat → Bool) : List Nat → List Nat → List CO
  | _, [] => []
  | ahead, i :: r =>
    let pre := if isReader (xs i) then [] else r.filter fun j => (isAdder (xs j).op || isPure (xs j).op) && !dp i j
    let chk := if isReader (xs i) || isAdder (xs i).op then [] else ahead.filter fun j => isLoad (xs j).op && !dp j i
    ⟨i, pre, chk⟩ :: marks xs dp (ahead ++ [i]) r

def canonOf (ops : Array Oper) (xs : Nat → AOper) : List CO :=
  marks xs (dep (befGo (predsOf ops) ops.size [] 0)) [] (orderGo (predsOf ops) xs ops.size [] (List.range ops.size))

def okOrder (ops : Array Oper) (xs : Nat → AOper) (l : List CO) : Bool :=
  (List.range ops.size).all (fun i => (predsOf ops i).all (fun j => decide (j < i))) && decide (l.length ≤ ops.size) && (List.range ops.size).all (fun i => (l.map (·.i)).contains i) && l.all (fun c => decide (c.i < ops.size)) &&
    decide ((l.map (·.i)).Nodup) && okPairs xs (befGo (predsOf ops) ops.size [] 0) l

def opsIn : Code → List Oper
  | .region _ ops _ => ops.toList
  | .seq a b | .cond _ a b => opsIn a ++ opsIn b
  | .block _ a | .loop a => opsIn a
  | _ => []

def isTmpIn (l : List Nat) : Operand → Bool
  | .tmp u => l.contains u
  | _ => false

/-- the slots derived from a box's address -/
def derive (l : List Nat) : List Oper → List Nat
  | [] => l
  | o :: r => match o.op, o.dst with
    | .fieldAddr _ x _, some d | .indexAddr _ x _, some d | .nilCheck x, some d => derive (if isTmpIn l x then d :: l else l) r
    | _, _ => derive l r

/-- does the operation do more with these addresses than read? -/
def harms (l : List Nat) (o : Oper) : Bool :=
  match o.op with
  | .fieldAddr _ _ _ | .indexAddr _ _ _ | .nilCheck _ | .load _ _ | .slice _ _ _ _ _ => false
  | op => op.operands.toList.any (isTmpIn l)

def slices (l : List Nat) (o : Oper) : Bool :=
  match o.op with
  | .slice _ x _ _ _ => isTmpIn l x
  | _ => false

def envOf (c : Code) : Env :=
  let ops := opsIn c
  let boxes := (ops.filterMap fun o => match o.op with | .box _ _ => o.dst | _ => none).filter fun t => let l := derive [t] ops; ops.any (slices l) && !ops.any (harms l)
  { roB := boxes, roD := derive boxes ops, wr := ops.filterMap fun o => match o.op with | .call c => (match c.callee, c.args.toList with | .builtin .copy, .tmp u :: _ => some u | _, _ => none) | _ => none }

def prepCode (P : Program) (env : Env) (n : Nat) : Code → Option ACode
  | .skip => some .skip
  | .region _ ops false => (mapAll (prepOper P env n ops) ops.toList).map .plain
  | .region _ ops true => match mapAll (prepOper P env n ops) ops.toList with
    | some xs => if okOrder ops (nth xs) (canonOf ops (nth xs)) = true then some (.draw xs (canonOf ops (nth xs))) else none
    | none => none
  | .seq a b => match prepCode P env n a, prepCode P env n b with
    | some x, some y => some (.seq x y)
    | _, _ => none
  | .cond c a b => match prepCode P env n a, prepCode P env n b with
    | some x, some y => if opOk c = true then some (.cond c x y) else none
    | _, _ => none
  | .block id a => (prepCode P env n a).map (.block id)
  | .loop a => (prepCode P env n a).map .loop
  | .exit id => some (.exit id)
  | .ret => some .ret
  | _ => none

/-! ### soundness -/

/-- the frame and the world at hand, of a call that began at H0, s0, w0 -/
def Sim (n : Nat) (H0 : PH) (s0 : Hp) (w0 : World) (f : Fr) (s : Hp) (a : Act) (w : World) : Prop :=
  a.tmps.size = n ∧ a.defers = [] ∧ ∃ H, FRel H a f ∧ Step H0 s0 w0 H s w

def post (n : Nat) (H0 : PH) (s0 : Hp) (w0 : World) (K : Ex → Fr → Hp → Prop) : Exit → Act → World → Prop
  | .normal, a, w => ∃ f s, Sim n H0 s0 w0 f s a w ∧ K .norm f s
  | .exit id, a, w => ∃ f s, Sim n H0 s0 w0 f s a w ∧ K (.exit id) f s
  | .ret, a, w => ∃ f s, Sim n H0 s0 w0 f s a w ∧ K .ret f s
  | _, _, _ => False

section
variable {P : Program} {env : Env} {n : Nat} {H0 : PH} {s0 : Hp} {w0 : World}

theorem size_put (a : Act) (d : Option Nat) (v : Value) : (a.put d v).tmps.size = a.tmps.size := by cases d <;> simp [Act.put]
theorem defers_put (a : Act) (d : Option Nat) (v : Value) : (a.put d v).defers = a.defers := by cases d <;> rfl

theorem mapAll_some {α β : Type} {g : α → Option β} : ∀ {l : List α} {ys : List β}, mapAll g l = some ys → l.length = ys.length ∧ ∀ (j : Nat) (x : α), l[j]? = some x → ∃ y, ys[j]? = some y ∧ g x = some y
  | [], ys, h => by simp only [mapAll, Option.some.injEq] at h; subst h; exact ⟨rfl, fun j x h => by simp at h⟩
  | x :: r, ys, h => by
    simp only [mapAll] at h
    split at h
    case h_2 => cases h
    rename_i y ys' hy hys
    obtain rfl := Option.some.inj h
    obtain ⟨h1, h2⟩ := mapAll_some hys
    refine ⟨by simp [h1], fun j x' hx => ?_⟩
    match j, hx with
    | 0, hx =>
      obtain rfl : x = x' := by simpa using hx
      exact ⟨y, rfl, hy⟩
    | j + 1, hx => exact h2 j x' (by simpa using hx)

theorem guard_wanted {ops : Array Oper} {o : Oper} {gd : Option (Nat × Bool)} (h : prepGuard ops o = some gd) {H : PH} {a : Act} {f : Fr} (hf : FRel H a f) :
    match gd with
    | none => Region.wanted o (yielded ops a.tmps) = true
    | some (g, want) => (∀ b, f g = .v (.bool b) → Region.wanted o (yielded ops a.tmps) = (b == want)) ∧ (f g = .tup [] → Region.wanted o (yielded ops a.tmps) = false) := by
  unfold prepGuard at h
  split at h
  · rename_i hg
    obtain rfl := Option.some.inj h
    simp [Region.wanted, hg]
  · rename_i j want hg
    split at h
    case h_2 => cases h
    rename_i g hd
    obtain rfl := Option.some.inj h
    have hv := hf g
    refine ⟨fun b hb => ?_, fun hb => ?_⟩
    · rw [hb] at hv
      have hval := hv.ev_v
      have hsome : a.tmps[g]? = some (.bool b) := by
        rw [Array.getD_eq_getD_getElem?] at hval
        cases hx : a.tmps[g]? with
        | none => rw [hx] at hval; cases hval
        | some x => rw [hx] at hval; simpa using hval
      have hy : yielded ops a.tmps j = some b := by simp [yielded, hd, hsome]
      simp [Region.wanted, hg, hy]
    · rw [hb] at hv
      have hnone : yielded ops a.tmps j = none := by
        unfold yielded
        rw [hd]
        simp only [Option.bind_some]
        cases hx : a.tmps[g]? with
        | none => rfl
        | some x =>
          rw [Array.getD_eq_getD_getElem?, hx] at hv
          simp only [Option.getD_some] at hv
          cases hv; rfl
      simp [Region.wanted, hg, hnone]

/-- one operation, with its guard -/
theorem oper_sound {ops : Array Oper} {o : Oper} {x : AOper} (h : prepOper P env n ops o = some x) {f : Fr} {s : Hp} {a : Act} {w : World} (hs : Sim n H0 s0 w0 f s a w) {K : Fr → Hp → Prop} (hT : T P x K f s) (Q : Exit → Act → World → Prop) :
    if Region.wanted o (yielded ops a.tmps) then o.wp P a w (fun a' w' => ∃ f' s', Sim n H0 s0 w0 f' s' a' w' ∧ K f' s') Q else ∃ f' s', Sim n H0 s0 w0 f' s' (a.put o.dst undef) w ∧ K f' s' := by
  obtain ⟨hsz, hdf, H, hf, hst⟩ := hs
  unfold prepOper at h
  split at h
  case h_2 => cases h
  rename_i ao gd hao hgd
  split at h
  case isFalse => cases h
  rename_i hlt
  obtain rfl := Option.some.inj h
  have hd : ∀ t, o.dst = some t → t < a.tmps.size := fun t ht => by rw [ht] at hlt; rw [hsz]; simpa [dstOk] using hlt
  have hw := guard_wanted hgd hf
  have run : G P ao f s (fun r s' => K (putF f o.dst r) s') → o.wp P a w (fun a' w' => ∃ f' s', Sim n H0 s0 w0 f' s' a' w' ∧ K f' s') Q := fun hG => by
    have := prepOp_sound hao hf hst.holds hG Q
    refine Oper.wp_mono (fun a' w' hh => ?_) this
    obtain ⟨v, H', s', r, rfl, hst', hv, hK⟩ := hh
    exact ⟨putF f o.dst r, s', ⟨by rw [size_put]; exact hsz, by rw [defers_put]; exact hdf, H', (hf.mono hst'.le).put o.dst hd hv, hst.trans hst'⟩, hK⟩
  have skp : K (putF f o.dst (.tup [])) s → ∃ f' s', Sim n H0 s0 w0 f' s' (a.put o.dst undef) w ∧ K f' s' := fun hK =>
    ⟨putF f o.dst (.tup []), s, ⟨by rw [size_put]; exact hsz, by rw [defers_put]; exact hdf, H, hf.put o.dst hd (RV.undef H), hst⟩, hK⟩
  unfold T E at hT
  cases gd with
  | none =>
    simp only at hT hw
    rw [if_pos hw]
    exact run hT
  | some gw =>
    obtain ⟨g, want⟩ := gw
    simp only at hT hw
    split at hT
    · rename_i b hb
      have hwb := hw.1 b hb
      split at hT
      · rename_i hbw; rw [if_pos (by rw [hwb]; simp [hbw])]; exact run hT
      · rename_i hbw; rw [if_neg (by rw [hwb]; simp [hbw])]; exact skp hT
    · rename_i hb
      rw [if_neg (by rw [hw.2 hb]; simp)]
      exact skp hT
    · exact hT.elim

theorem runL_sound {ops : Array Oper} {Q : Exit → Act → World → Prop} {K : Fr → Hp → Prop} (hQ : ∀ f s a w, Sim n H0 s0 w0 f s a w → K f s → Q .normal a w) : ∀ (l : List Oper) (ys : List AOper), mapAll (prepOper P env n ops) l = some ys →
    ∀ (f : Fr) (s : Hp) (a : Act) (w : World), Sim n H0 s0 w0 f s a w → runL P ys K f s → wpList P ops Q l a w
  | [], ys, h, f, s, a, w, hs, hr => by
    simp only [mapAll, Option.some.injEq] at h; subst h
    exact hQ f s a w hs hr
  | o :: l, ys, h, f, s, a, w, hs, hr => by
    simp only [mapAll] at h
    split at h
    case h_2 => cases h
    rename_i y ys' hy hys
    obtain rfl := Option.some.inj h
    have ih := runL_sound hQ l ys' hys
    have := oper_sound hy hs hr Q
    simp only [wpList]
    split
    · rename_i hw
      rw [if_pos hw] at this
      exact .inl (Oper.wp_mono (fun a' w' ⟨f', s', hs', hr'⟩ => ih f' s' a' w' hs' hr') this)
    · rename_i hw
      rw [if_neg hw] at this
      obtain ⟨f', s', hs', hr'⟩ := this
      exact ih f' s' _ w hs' hr'

theorem aAny_sound {ops : Array Oper} {Q : Exit → Act → World → Prop} {K : Fr → Hp → Prop} (hQ : ∀ f s a w, Sim n H0 s0 w0 f s a w → K f s → Q .normal a w) {ys : List AOper} (h : mapAll (prepOper P env n ops) ops.toList = some ys) :
    ∀ (fuel : Nat) (listed : Array Bool) (f : Fr) (s : Hp) (a : Act) (w : World), Sim n H0 s0 w0 f s a w → aAny P (nth ys) ops K fuel listed f s → wpAny P .any ops Q fuel listed a w
  | 0, listed, f, s, a, w, hs, hr => ⟨hr.1, hQ f s a w hs hr.2⟩
  | fuel + 1, listed, f, s, a, w, hs, hr => by
    refine ⟨fun h0 => hQ f s a w hs (hr.1 h0), fun i hi => ?_⟩
    have hT := hr.2 i hi
    obtain ⟨_, o, ho, _⟩ := mem_ready.1 hi
    obtain ⟨y, hy1, hy2⟩ := (mapAll_some h).2 i o (by simpa using ho)
    have hy : nth ys i = y := by simp [nth, List.getD, hy1]
    rw [hy] at hT
    have := oper_sound hy2 hs hT Q
    unfold wpOp
    simp only [ho]
    split
    · rename_i hw
      rw [if_pos hw] at this
      exact .inl (Oper.wp_mono (fun a' w' ⟨f', s', hs', hr'⟩ => aAny_sound hQ h fuel _ f' s' a' w' hs' hr') this)
    · rename_i hw
      rw [if_neg hw] at this
      obtain ⟨f', s', hs', hr'⟩ := this
      exact aAny_sound hQ h fuel _ f' s' _ w hs' hr'

theorem okOrder_any {ops : Array Oper} {xs : Nat → AOper} {l : List CO} (h : okOrder ops xs l = true) {K : Fr → Hp → Prop} {f : Fr} {s : Hp} (hc : can P xs K l f s) : aAny P xs ops K ops.size (Array.replicate ops.size false) f s := by
  simp only [okOrder, Bool.and_eq_true, List.all_eq_true, decide_eq_true_eq, List.mem_range] at h
  obtain ⟨⟨⟨⟨⟨h1, h2⟩, h2'⟩, h3⟩, h4⟩, h5⟩ := h
  have hlt : ∀ i j, j ∈ predsOf ops i → j < i := fun i j hj => by
    have hi : i < ops.size := by
      obtain ⟨o, ho, _⟩ := mem_preds.1 hj
      exact (Array.getElem?_eq_some_iff.1 ho).1
    exact h1 i hi j hj
  refine can_any (befGo_bits hlt ops.size [] 0 rfl (fun i c h => by simp [dep] at h)) hlt ops.size _ l (by simp) (by omega) (fun i => ?_) h4 h5 (fun i hi hl => ?_) f s hc
  · constructor
    · intro hi
      obtain ⟨c, hc, rfl⟩ := List.mem_map.1 hi
      have := h3 c hc
      exact ⟨this, by simp [this]⟩
    · rintro ⟨hi, _⟩
      simpa using h2' i hi
  · simp [hi] at hl

theorem exit_then {X : Act → World → Prop} {Y : Exit → Act → World → Prop} : Exit.then X Y .normal = X := rfl

/-- WHAT 'awp' SAYS OF THE CODE HOLDS OF IT. -/
theorem awp_sound (hm : P.follows .mixedOrders = true) : ∀ (c : Code) (x : ACode), prepCode P env n c = some x → ∀ (K : Ex → Fr → Hp → Prop) (f : Fr) (s : Hp) (a : Act) (w : World), Sim n H0 s0 w0 f s a w → awp P x K f s → c.wp P (post n H0 s0 w0 K) a w
  | .skip, x, h, K, f, s, a, w, hs, ha => by
    simp only [prepCode, Option.some.injEq] at h; subst h
    exact wp_skip ⟨f, s, hs, ha⟩
  | .region id ops d, x, h, K, f, s, a, w, hs, ha => by
    cases d with
    | false =>
      simp only [prepCode] at h
      obtain ⟨ys, hys, rfl⟩ := Option.map_eq_some_iff.1 h
      refine wp_region_list ?_
      exact runL_sound (K := K .norm) (fun f s a w hs hK => ⟨f, s, hs, hK⟩) ops.toList ys hys f s a w hs ha
    | true =>
      simp only [prepCode] at h
      split at h
      case h_2 => cases h
      rename_i ys hys
      split at h
      case isFalse => cases h
      rename_i hok
      obtain rfl := Option.some.inj h
      refine wp_region_any hm ?_
      obtain ⟨hsz, hdf, H, hf, hst⟩ := hs
      exact aAny_sound (K := K .norm) (fun f s a w hs hK => ⟨f, s, hs, hK⟩) hys ops.size _ f s a _ ⟨hsz, hdf, H, hf, hst.trans (Step.drew hst.holds)⟩ (okOrder_any hok ha)
  | .seq c1 c2, x, h, K, f, s, a, w, hs, ha => by
    simp only [prepCode] at h
    split at h
    case h_2 => cases h
    rename_i x1 x2 h1 h2
    obtain rfl := Option.some.inj h
    refine wp_seq (wp_mono (awp_sound hm c1 x1 h1 _ f s a w hs ha) fun e a' w' hq => ?_)
    cases e with
    | normal => obtain ⟨f', s', hs', hK⟩ := hq; exact awp_sound hm c2 x2 h2 K f' s' a' w' hs' hK
    | exit id => exact hq
    | ret => exact hq
    | goto l => exact hq
    | panic ch => exact hq
    | outgrown => exact hq
  | .cond c c1 c2, x, h, K, f, s, a, w, hs, ha => by
    simp only [prepCode] at h
    split at h
    case h_2 => cases h
    rename_i x1 x2 h1 h2
    split at h
    case isFalse => cases h
    rename_i hc
    obtain rfl := Option.some.inj h
    simp only [awp] at ha
    split at ha
    case h_2 => exact ha.elim
    rename_i t he
    have hv := (hs.2.2.choose_spec.1).ev c hc
    rw [he] at hv
    refine wp_cond_split hv.ev_v (fun ht => ?_) (fun ht => ?_)
    · exact awp_sound hm c1 x1 h1 K f s a w hs (ha.1 ht)
    · exact awp_sound hm c2 x2 h2 K f s a w hs (ha.2 ht)
  | .block id c, x, h, K, f, s, a, w, hs, ha => by
    simp only [prepCode] at h
    obtain ⟨y, hy, rfl⟩ := Option.map_eq_some_iff.1 h
    refine wp_block (wp_mono (awp_sound hm c y hy _ f s a w hs ha) fun e a' w' hq => ?_)
    cases e with
    | normal => exact hq
    | exit id' =>
      obtain ⟨f', s', hs', hK⟩ := hq
      simp only [Exit.inBlock]
      simp only [blockK] at hK
      split
      · rename_i hid; rw [if_pos hid] at hK; exact ⟨f', s', hs', hK⟩
      · rename_i hid; rw [if_neg hid] at hK; exact ⟨f', s', hs', hK⟩
    | ret => exact hq
    | goto l => exact hq
    | panic ch => exact hq
    | outgrown => exact hq
  | .loop c, x, h, K, f, s, a, w, hs, ha => by
    simp only [prepCode] at h
    obtain ⟨y, hy, rfl⟩ := Option.map_eq_some_iff.1 h
    obtain ⟨I, m, hI, hround⟩ := ha
    -- the loop, by the measure
    intro b k cs
    have key : ∀ N f s a w, m f s = N → I f s → Sim n H0 s0 w0 f s a w →
        ∃ e a' w', post n H0 s0 w0 K e a' w' ∧ Arrives P (lone (b.at a (.code c :: .inLoop c :: k)) cs w) b k cs e a' w' := by
      intro N
      induction N using Nat.strongRecOn with
      | _ N ih =>
        intro f s a w hN hI hs
        obtain ⟨e, a1, w1, hq, harr⟩ := awp_sound hm c y hy _ f s a w hs (hround f s hI) b (.inLoop c :: k) cs
        cases e with
        | normal =>
          obtain ⟨f', s', hs', hI', hlt⟩ := hq
          obtain ⟨e2, a2, w2, hq2, harr2⟩ := ih (m f' s') (hN ▸ hlt) f' s' a1 w1 rfl hI' hs'
          exact ⟨e2, a2, w2, hq2, .of_steps (Steps.trans harr (.one step_inLoop)) harr2⟩
        | exit id => exact ⟨.exit id, a1, w1, hq, .pass (x := .inLoop c) rfl (fun _ _ => .inl (by simp)) harr⟩
        | goto l => exact hq.elim
        | ret => exact ⟨.ret, a1, w1, hq, .pass (x := .inLoop c) rfl (fun _ _ => .inl (by simp)) harr⟩
        | panic ch => exact hq.elim
        | outgrown => exact hq.elim
    obtain ⟨e, a', w', hq, harr⟩ := key _ f s a w rfl hI hs
    exact ⟨e, a', w', hq, .of_steps (.one step_loop) harr⟩
  | .exit id, x, h, K, f, s, a, w, hs, ha => by
    simp only [prepCode, Option.some.injEq] at h; subst h
    exact wp_exit ⟨f, s, hs, ha⟩
  | .ret, x, h, K, f, s, a, w, hs, ha => by
    simp only [prepCode, Option.some.injEq] at h; subst h
    exact wp_ret ⟨f, s, hs, ha⟩

/-! ### functions -/

structure AFunc where
  ntmps : Nat
  nparams : Nat
  code : ACode
  results : List (Nat × Option (Bool × Nat))

def prepRes (P : Program) : ResultVar → Option (Nat × Option (Bool × Nat))
  | .tmp t => some (t, none)
  | .cell a t => match P.underlying t, szOf P t with
    | some d, some n => if d.isRow = true ∨ n = 1 then some (a, some (d.isRow, n)) else none
    | _, _ => none

def prepFunc (P : Program) (f : FuncId) : Option AFunc :=
  match P.funcs[f]? with
  | some fn => match fn.body with
    | some c => match prepCode P (envOf c) fn.ntmps c, mapAll (prepRes P) fn.results.toList with
      | some x, some rs => if fn.params.size ≤ fn.ntmps then some ⟨fn.ntmps, fn.params.size, x, rs⟩ else none
      | _, _ => none
    | none => none
  | none => none

/-- what a result variable holds -/
def resG (f : Fr) (s : Hp) : Nat × Option (Bool × Nat) → Option AV
  | (t, none) => some (f t)
  | (t, some (agg, n)) => match f t with
    | .ptr l off => match s.read l with
      | some cs => if off + n ≤ cs.length then some (mkv agg n (cs.drop off)) else none
      | none => none
    | _ => none

def resAll (f : Fr) (s : Hp) (rs : List (Nat × Option (Bool × Nat))) : Option AV :=
  match mapAll (resG f s) rs with
  | some [r] => some r
  | some vs => some (.tup vs)
  | none => none

def postF (F : AFunc) (R : AV → Hp → Prop) : Ex → Fr → Hp → Prop
  | .exit _, _, _ => False
  | _, f, s => ∃ r s', resAll f s F.results = some r ∧ s'.sub s ∧ R r s'

def initF (args : List AV) : Fr := fun t => args.getD t (.tup [])

def resOf (tmps : Array Value) : ResultVar → Sem Value
  | .tmp t => pure (tmps.getD t undef)
  | .cell a t => do loadVar t (← asAddr (tmps.getD a undef))

theorem run_res {H : PH} {f : Fr} {s : Hp} {a : Act} {w : World} (hf : FRel H a f) (hh : Holds H s w) {rv : ResultVar} {p : Nat × Option (Bool × Nat)} (hp : prepRes P rv = some p) {r : AV} (hr : resG f s p = some r) :
    ∃ v, (resOf a.tmps rv).run P w = .ok v w ∧ RV H v r := by
  cases rv with
  | tmp t =>
    simp only [prepRes, Option.some.injEq] at hp; subst hp
    simp only [resG, Option.some.injEq] at hr; subst hr
    exact ⟨_, rfl, hf t⟩
  | cell b t =>
    simp only [prepRes] at hp
    split at hp
    case h_2 => cases hp
    rename_i d n hu hn
    split at hp
    case isFalse => cases hp
    rename_i hrow
    obtain rfl := Option.some.inj hp
    simp only [resG] at hr
    split at hr
    case h_2 => cases hr
    rename_i l off he
    split at hr
    case h_2 => cases hr
    rename_i cs hcs
    split at hr
    case isFalse => cases hr
    rename_i hle
    obtain rfl := Option.some.inj hr
    have hv := hf b
    rw [he] at hv
    have hval := hv.lt_of_ptr
    obtain ⟨hone, vs, T, hb, hra⟩ := hh.read hcs
    have hlen := hra.1
    cases hd : d.isRow with
    | true =>
      have hrange : w.rangeAt l off ((vs.toList.drop off).take n) := by
        intro j v hj
        rw [cell_of_row w l (off + j) vs T _ hb]
        rw [List.getElem?_take] at hj
        split at hj
        · simpa using hj
        · cases hj
      have hl : ((vs.toList.drop off).take n).length = n := by simp; omega
      have hrun := run_loadVar_mid (P := P) w l off t ((vs.toList.drop off).take n) d hrange hu hd (by rw [hl]; exact hn)
      refine ⟨.agg ((vs.toList.drop off).take n).toArray, by simp only [resOf, Sem.run_bind, hval, asAddr, Sem.run_pure, Result.andThen_ok, hrun], ?_⟩
      rw [show ((vs.toList.drop off).take n).toArray = vs.extract off (off + n) by rw [← extract_drop_take]]
      exact RV.mkv hra hone off n hle
    | false =>
      obtain rfl := row_or_one hrow hd
      have hlt : off < vs.size := by omega
      have hc : w.cell? ⟨l, off, none⟩ = some (vs.getD off undef) := by
        rw [cell_of_row w l off vs T _ hb]; simp [hlt]
      have hrun := run_loadVar_one (P := P) w t d ⟨l, off, none⟩ _ hu hd hc
      exact ⟨vs.getD off undef, by simp only [resOf, Sem.run_bind, hval, asAddr, Sem.run_pure, Result.andThen_ok, hrun], RV.mkv1 hra off hle⟩

theorem run_resList {H : PH} {f : Fr} {s : Hp} {a : Act} {w : World} (hf : FRel H a f) (hh : Holds H s w) : ∀ (rvs : List ResultVar) (ps : List (Nat × Option (Bool × Nat))) (rs : List AV), mapAll (prepRes P) rvs = some ps → mapAll (resG f s) ps = some rs →
    ∃ vs : List Value, (rvs.mapM (resOf a.tmps)).run P w = .ok vs w ∧ vs.length = rs.length ∧ ∀ (j : Nat) (x : Value) (u : AV), vs[j]? = some x → rs[j]? = some u → RV H x u
  | [], ps, rs, hp, hr => by
    simp only [mapAll, Option.some.injEq] at hp; subst hp
    simp only [mapAll, Option.some.injEq] at hr; subst hr
    exact ⟨[], rfl, rfl, fun j x u h => by simp at h⟩
  | rv :: rvs, ps, rs, hp, hr => by
    simp only [mapAll] at hp
    split at hp
    case h_2 => cases hp
    rename_i p ps' hp1 hp2
    obtain rfl := Option.some.inj hp
    simp only [mapAll] at hr
    split at hr
    case h_2 => cases hr
    rename_i r rs' hr1 hr2
    obtain rfl := Option.some.inj hr
    obtain ⟨v, h1, h2⟩ := run_res hf hh hp1 hr1
    obtain ⟨vs, h3, h4, h5⟩ := run_resList hf hh rvs ps' rs' hp2 hr2
    refine ⟨v :: vs, ?_, by simp [h4], fun j x u hx hu => ?_⟩
    · rw [List.mapM_cons, Sem.run_bind, h1, Result.andThen_ok, Sem.run_bind, h3]; rfl
    · match j, hx, hu with
      | 0, hx, hu =>
        obtain rfl : v = x := by simpa using hx
        obtain rfl : r = u := by simpa using hu
        exact h2
      | j + 1, hx, hu => exact h5 j x u (by simpa using hx) (by simpa using hu)

theorem run_results {H : PH} {f : Fr} {s : Hp} {a : Act} {w : World} (hf : FRel H a f) (hh : Holds H s w) {fn : Func} {ps : List (Nat × Option (Bool × Nat))} (hp : mapAll (prepRes P) fn.results.toList = some ps) {r : AV} (hr : resAll f s ps = some r) :
    ∃ v, (results fn a.tmps).run P w = .ok v w ∧ RV H v r := by
  unfold resAll at hr
  have fin : ∀ rs, mapAll (resG f s) ps = some rs → ∃ vs : Array Value, (results fn a.tmps).run P w = .ok (if h : vs.size = 1 then vs[0] else .tuple vs) w ∧ vs.toList.length = rs.length ∧ ∀ (j : Nat) (x : Value) (u : AV), vs.toList[j]? = some x → rs[j]? = some u → RV H x u := fun rs hrs => by
    obtain ⟨vs, h1, h2, h3⟩ := run_resList hf hh fn.results.toList ps rs hp hrs
    refine ⟨vs.toArray, ?_, by simpa using h2, fun j x u hx hu => h3 j x u (by simpa using hx) hu⟩
    have e : results fn a.tmps = (do let vs ← fn.results.mapM (resOf a.tmps); pure (if h : vs.size = 1 then vs[0] else .tuple vs)) := rfl
    rw [e, Sem.run_bind, Array.mapM_eq_mapM_toList, Sem.run_map]
    rw [h1]
    rfl
  split at hr
  · rename_i r' hrs
    obtain rfl := Option.some.inj hr
    obtain ⟨vs, h1, h2, h3⟩ := fin _ hrs
    have hsz : vs.size = 1 := by simpa using h2
    rw [dif_pos hsz] at h1
    refine ⟨_, h1, h3 0 _ _ ?_ rfl⟩
    simp [hsz]
  · rename_i rs hne hrs
    obtain rfl := Option.some.inj hr
    obtain ⟨vs, h1, h2, h3⟩ := fin _ hrs
    have hsz : vs.size ≠ 1 := by
      intro he
      have hl : rs.length = 1 := by rw [← h2]; simpa using he
      obtain ⟨x, hx⟩ := List.length_eq_one_iff.1 hl
      exact hne x hx
    rw [dif_neg hsz] at h1
    exact ⟨_, h1, .tup _ _ (RVA.iff_list.2 ⟨h2, h3⟩).1 (RVA.iff_list.2 ⟨h2, h3⟩).2⟩
  · cases hr

/-- A FUNCTION'S CONTRACT, FROM ITS CODE. -/
theorem AC_of (hm : P.follows .mixedOrders = true) {g : FuncId} {F : AFunc} (hF : prepFunc P g = some F) {args : List AV} {s : Hp} {R : AV → Hp → Prop} (hlen : args.length ≤ F.ntmps) (h : awp P F.code (postF F R) (initF args) s) : AC P g args s R := by
  intro vs w H ha hh
  unfold prepFunc at hF
  split at hF
  case h_2 => cases hF
  rename_i fn hfn
  split at hF
  case h_2 => cases hF
  rename_i c hc
  split at hF
  case h_2 => cases hF
  rename_i x rs hx hrs
  split at hF
  case isFalse => cases hF
  rename_i hps
  obtain rfl := Option.some.inj hF
  simp only at hlen h
  refine calls_of_wp hfn hc ?_
  have hvs : vs.size = args.length := ha.1
  have hs0 : Sim fn.ntmps H s w (initF args) s { tmps := vs ++ Array.replicate (fn.ntmps - vs.size) undef, defers := [] } w := by
    refine ⟨by simp; omega, rfl, H, fun t => ?_, .refl hh⟩
    by_cases ht : t < args.length
    · have e1 : initF args t = args[t] := by simp [initF, List.getD, ht]
      rw [e1]
      have := ha.2 t args[t] (List.getElem?_eq_getElem ht)
      have e2 : (vs ++ Array.replicate (fn.ntmps - vs.size) undef).getD t undef = vs.getD t undef := by
        simp [Array.getElem?_append, hvs, ht]
      rw [e2]; exact this
    · have e1 : initF args t = .tup [] := by simp [initF, List.getD, ht]
      rw [e1]
      have e2 : (vs ++ Array.replicate (fn.ntmps - vs.size) undef).getD t undef = undef := by
        simp only [Array.getD_eq_getD_getElem?, Array.getElem?_append, hvs]
        rw [if_neg ht]
        simp only [Array.getElem?_replicate]
        split <;> rfl
      rw [e2]; exact RV.undef H
  refine wp_mono (awp_sound hm c x hx _ _ _ _ _ hs0 h) fun e a' w' hq => ?_
  have fin : (∃ f s1, Sim fn.ntmps H s w f s1 a' w' ∧ ∃ r s2, resAll f s1 rs = some r ∧ s2.sub s1 ∧ R r s2) →
      a'.defers = [] ∧ ∃ v, (results fn a'.tmps).run P w' = .ok v w' ∧ ∃ v' r H' s', Ending.returned v = .returned v' ∧ Step H s w H' s' w' ∧ RV H' v' r ∧ R r s' := by
    rintro ⟨f, s1, ⟨_, hdf, H', hf, hst⟩, r, s2, hr, hsub, hR⟩
    obtain ⟨v, hrun, hv⟩ := run_results hf hst.holds hrs hr
    exact ⟨hdf, v, hrun, v, r, H', s2, rfl, hst.drop hsub, hv, hR⟩
  cases e with
  | normal => exact fin hq
  | ret => exact fin hq
  | exit id => obtain ⟨f, s1, _, hK⟩ := hq; exact hK.elim
  | goto l => exact hq.elim
  | panic ch => exact hq.elim
  | outgrown => exact hq.elim

end
end Go.Av
set_option maxRecDepth 100000
namespace Go.Proofs.Ytapjikladjoicaa
open Go Go.Av

theorem hm : Try.prog.follows .mixedOrders = true := by kernel_rfl

-- indenture/indenturelaw34.LightKeeps
def F3 : AFunc where
  ntmps := 137
  nparams := 7
  results := [(14, none)]
  code :=
(.seq
(.plain (
⟨(some 9), .box 26 (.tmp 2), none⟩ ::
⟨(some 12), .box 24 (.tmp 5), none⟩ ::
⟨(some 14), .mv (.const (.bool false)), none⟩ ::
[]))
(.seq
(.seq
(.plain (
⟨(some 23), .callF 6 [], none⟩ ::
⟨(some 24), .un .not (.tmp 23), none⟩ ::
[]))
(.cond (.tmp 24)
(.seq
(.plain (
⟨(some 14), .mv (.const (.bool false)), none⟩ ::
[]))
.ret)
.skip))
(.seq
(.seq
(.plain (
⟨(some 25), .mv (.tmp 0), none⟩ ::
⟨(some 26), .len (.tmp 25), none⟩ ::
⟨(some 27), .bin .gtr (.tmp 26) (.const (.int .i64 30)), none⟩ ::
⟨(some 28), .mv (.tmp 27), none⟩ ::
⟨(some 29), .mv (.tmp 3), (some (28, false))⟩ ::
⟨(some 30), .len (.tmp 29), (some (28, false))⟩ ::
⟨(some 31), .bin .gtr (.tmp 30) (.const (.int .i64 100)), (some (28, false))⟩ ::
⟨(some 32), .pick (.tmp 28) (.const (.bool true)) (.tmp 31), none⟩ ::
⟨(some 33), .mv (.tmp 32), none⟩ ::
⟨(some 34), .mv (.tmp 6), (some (33, false))⟩ ::
⟨(some 35), .len (.tmp 34), (some (33, false))⟩ ::
⟨(some 36), .bin .gtr (.tmp 35) (.const (.int .i64 100)), (some (33, false))⟩ ::
⟨(some 37), .pick (.tmp 33) (.const (.bool true)) (.tmp 36), none⟩ ::
⟨(some 38), .mv (.tmp 37), none⟩ ::
⟨(some 39), .mv (.tmp 0), (some (38, false))⟩ ::
⟨(some 40), .len (.tmp 39), (some (38, false))⟩ ::
⟨(some 41), .bin .eql (.tmp 40) (.const (.int .i64 0)), (some (38, false))⟩ ::
⟨(some 42), .pick (.tmp 38) (.const (.bool true)) (.tmp 41), none⟩ ::
[]))
(.cond (.tmp 42)
(.seq
(.plain (
⟨(some 14), .mv (.const (.bool true)), none⟩ ::
[]))
.ret)
.skip))
(.seq
(.plain (
⟨(some 43), .mv (.tmp 1), none⟩ ::
⟨(some 44), .cvt .i64 (.tmp 43), none⟩ ::
⟨(some 45), .mv (.tmp 0), none⟩ ::
⟨(some 46), .len (.tmp 45), none⟩ ::
⟨(some 47), .bin .rem (.tmp 44) (.tmp 46), none⟩ ::
⟨(some 48), .bin .add (.const (.int .i64 1)) (.tmp 47), none⟩ ::
⟨(some 15), .mv (.tmp 48), none⟩ ::
[]))
(.seq
(.plain (
⟨(some 49), .mv (.tmp 0), none⟩ ::
⟨(some 50), .mv (.tmp 15), none⟩ ::
⟨(some 51), .callF 7 [(.tmp 49), (.tmp 50)], none⟩ ::
⟨(some 16), .alloc 26 ([(.v (.int .i64 0))] ++ List.replicate 64 (.v (.int .u8 0))), none⟩ ::
⟨none, .store 65 (.tmp 16) (.tmp 51), none⟩ ::
[]))
(.seq
(.draw (
⟨(some 53), .load true 65 (.tmp 16), none⟩ ::
⟨(some 54), .callF 9 [(.tmp 53)], none⟩ ::
⟨(some 55), .load true 65 (.tmp 16), none⟩ ::
⟨(some 56), .callF 8 [(.tmp 54), (.tmp 55)], none⟩ ::
⟨(some 52), .mv (.tmp 56), none⟩ ::
⟨(some 57), .ext (.tmp 52) 0, none⟩ ::
⟨(some 58), .ext (.tmp 52) 1, none⟩ ::
⟨(some 17), .mv (.tmp 57), none⟩ ::
⟨(some 18), .mv (.tmp 58), none⟩ ::
[])
(⟨0, [], []⟩ :: ⟨2, [], []⟩ :: ⟨1, [], [2]⟩ :: ⟨3, [], []⟩ :: ⟨4, [], []⟩ :: ⟨5, [], []⟩ :: ⟨6, [], []⟩ :: ⟨7, [], []⟩ :: ⟨8, [], []⟩ :: []))
(.seq
(.seq
(.plain (
⟨(some 59), .mv (.tmp 18), none⟩ ::
⟨(some 60), .bin .neq (.tmp 59) (.const (.int .i64 0)), none⟩ ::
⟨(some 61), .mv (.tmp 60), none⟩ ::
⟨(some 62), .mv (.tmp 17), (some (61, false))⟩ ::
⟨(some 63), .eqp false (.tmp 62) (.const (.pointer none)), (some (61, false))⟩ ::
⟨(some 64), .pick (.tmp 61) (.const (.bool true)) (.tmp 63), none⟩ ::
[]))
(.cond (.tmp 64)
(.seq
(.plain (
⟨(some 14), .mv (.const (.bool false)), none⟩ ::
[]))
.ret)
.skip))
(.seq
(.seq
(.draw (
⟨(some 65), .mv (.tmp 17), none⟩ ::
⟨(some 66), .load true 65 (.tmp 9), none⟩ ::
⟨(some 67), .callF 9 [(.tmp 66)], none⟩ ::
⟨(some 68), .load true 65 (.tmp 9), none⟩ ::
⟨(some 69), .mv (.tmp 3), none⟩ ::
⟨(some 70), .callF 10 [(.tmp 65), (.tmp 67), (.tmp 68), (.tmp 69)], none⟩ ::
⟨(some 71), .bin .neq (.tmp 70) (.const (.int .i64 0)), none⟩ ::
⟨(some 72), .mv (.tmp 71), none⟩ ::
⟨(some 73), .mv (.tmp 17), (some (72, false))⟩ ::
⟨(some 74), .callF 11 [(.tmp 73)], (some (72, false))⟩ ::
⟨(some 75), .load true 65 (.tmp 9), (some (72, false))⟩ ::
⟨(some 76), .eqv true [(1, .int .i64), (64, .int .u8)] (.tmp 74) (.tmp 75), (some (72, false))⟩ ::
⟨(some 77), .pick (.tmp 72) (.const (.bool true)) (.tmp 76), none⟩ ::
[])
(⟨0, [], []⟩ :: ⟨1, [], []⟩ :: ⟨3, [], []⟩ :: ⟨4, [], []⟩ :: ⟨2, [], [3]⟩ :: ⟨5, [], []⟩ :: ⟨6, [], []⟩ :: ⟨7, [], []⟩ :: ⟨8, [], []⟩ :: ⟨10, [], []⟩ :: ⟨9, [], [10]⟩ :: ⟨11, [], []⟩ :: ⟨12, [], []⟩ :: []))
(.cond (.tmp 77)
(.seq
(.plain (
⟨(some 14), .mv (.const (.bool true)), none⟩ ::
[]))
.ret)
.skip))
(.seq
(.plain (
⟨(some 78), .mv (.tmp 4), none⟩ ::
⟨(some 79), .cvt .i64 (.tmp 78), none⟩ ::
⟨(some 80), .mv (.tmp 15), none⟩ ::
⟨(some 81), .bin .rem (.tmp 79) (.tmp 80), none⟩ ::
⟨(some 19), .mv (.tmp 81), none⟩ ::
[]))
(.seq
(.seq
(.draw (
⟨(some 82), .fa 1 (.tmp 9), none⟩ ::
⟨(some 83), .load true 32 (.tmp 82), none⟩ ::
⟨(some 84), .fa 0 (.tmp 9), none⟩ ::
⟨(some 85), .load false 1 (.tmp 84), none⟩ ::
⟨(some 86), .mv (.tmp 19), none⟩ ::
⟨(some 87), .load true 32 (.tmp 12), none⟩ ::
⟨(some 88), .mv (.tmp 6), none⟩ ::
⟨(some 89), .callF 12 [(.tmp 83), (.tmp 85), (.tmp 86), (.tmp 87), (.tmp 88)], none⟩ ::
⟨(some 90), .un .not (.tmp 89), none⟩ ::
⟨(some 91), .mv (.tmp 90), none⟩ ::
⟨(some 92), .load true 32 (.tmp 12), (some (91, false))⟩ ::
⟨(some 93), .mv (.tmp 0), (some (91, false))⟩ ::
⟨(some 94), .mv (.tmp 19), (some (91, false))⟩ ::
⟨(some 95), .iaS 32 (.tmp 93) (.tmp 94), (some (91, false))⟩ ::
⟨(some 96), .load true 32 (.tmp 95), (some (91, false))⟩ ::
⟨(some 97), .eqv false [(32, .int .u8)] (.tmp 92) (.tmp 96), (some (91, false))⟩ ::
⟨(some 98), .pick (.tmp 91) (.const (.bool true)) (.tmp 97), none⟩ ::
⟨(some 99), .mv (.tmp 98), none⟩ ::
⟨(some 100), .mv (.tmp 17), (some (99, false))⟩ ::
⟨(some 101), .callF 13 [(.tmp 100)], (some (99, false))⟩ ::
⟨(some 102), .bin .eql (.tmp 101) (.const (.int .i64 0)), (some (99, false))⟩ ::
⟨(some 103), .pick (.tmp 99) (.const (.bool true)) (.tmp 102), none⟩ ::
[])
(⟨0, [], []⟩ :: ⟨1, [], []⟩ :: ⟨2, [], []⟩ :: ⟨3, [], []⟩ :: ⟨4, [], []⟩ :: ⟨5, [], []⟩ :: ⟨6, [], []⟩ :: ⟨7, [], []⟩ :: ⟨8, [], []⟩ :: ⟨9, [], []⟩ :: ⟨10, [], []⟩ :: ⟨11, [], []⟩ :: ⟨12, [], []⟩ :: ⟨13, [], []⟩ :: ⟨14, [], []⟩ :: ⟨15, [], []⟩ :: ⟨16, [], []⟩ :: ⟨17, [], []⟩ :: ⟨18, [], []⟩ :: ⟨19, [], []⟩ :: ⟨20, [], []⟩ :: ⟨21, [], []⟩ :: []))
(.cond (.tmp 103)
(.seq
(.plain (
⟨(some 14), .mv (.const (.bool true)), none⟩ ::
[]))
.ret)
.skip))
(.seq
(.plain (
⟨(some 105), .mv (.tmp 0), none⟩ ::
⟨(some 106), .mv (.tmp 15), none⟩ ::
⟨(some 107), .slc 32 (.tmp 105) none (some (.tmp 106)), none⟩ ::
⟨(some 108), .mv (.tmp 19), none⟩ ::
⟨(some 109), .callF 14 [(.tmp 107), (.tmp 108)], none⟩ ::
⟨(some 104), .mv (.tmp 109), none⟩ ::
⟨(some 110), .ext (.tmp 104) 0, none⟩ ::
⟨(some 111), .ext (.tmp 104) 1, none⟩ ::
⟨(some 20), .mv (.tmp 110), none⟩ ::
⟨(some 21), .mv (.tmp 111), none⟩ ::
[]))
(.seq
(.draw (
⟨(some 112), .mv (.tmp 15), none⟩ ::
⟨(some 113), .mv (.tmp 19), none⟩ ::
⟨(some 114), .mv (.tmp 0), none⟩ ::
⟨(some 115), .mv (.tmp 19), none⟩ ::
⟨(some 116), .iaS 32 (.tmp 114) (.tmp 115), none⟩ ::
⟨(some 117), .load true 32 (.tmp 116), none⟩ ::
⟨(some 118), .mv (.tmp 20), none⟩ ::
⟨(some 119), .callF 15 [(.tmp 112), (.tmp 113), (.tmp 117), (.tmp 118)], none⟩ ::
⟨(some 120), .fa 0 (.tmp 9), none⟩ ::
⟨(some 121), .load false 1 (.tmp 120), none⟩ ::
⟨(some 122), .mv (.tmp 19), none⟩ ::
⟨(some 123), .load true 32 (.tmp 12), none⟩ ::
⟨(some 124), .mv (.tmp 6), none⟩ ::
⟨(some 125), .callF 15 [(.tmp 121), (.tmp 122), (.tmp 123), (.tmp 124)], none⟩ ::
⟨(some 126), .app 1 24 (.tmp 119) (.tmp 125), none⟩ ::
⟨(some 22), .mv (.tmp 126), none⟩ ::
[])
(⟨0, [], []⟩ :: ⟨1, [], []⟩ :: ⟨2, [], []⟩ :: ⟨3, [], []⟩ :: ⟨4, [], []⟩ :: ⟨5, [], []⟩ :: ⟨6, [], []⟩ :: ⟨8, [], []⟩ :: ⟨9, [], []⟩ :: ⟨10, [], []⟩ :: ⟨11, [], []⟩ :: ⟨12, [], []⟩ :: ⟨7, [], [9, 11]⟩ :: ⟨13, [], []⟩ :: ⟨14, [], []⟩ :: ⟨15, [], []⟩ :: []))
(.seq
(.plain (
⟨(some 127), .mv (.tmp 22), none⟩ ::
⟨(some 128), .fa 1 (.tmp 16), none⟩ ::
⟨(some 129), .load true 32 (.tmp 128), none⟩ ::
⟨(some 130), .mv (.tmp 15), none⟩ ::
⟨(some 131), .fa 0 (.tmp 9), none⟩ ::
⟨(some 132), .load false 1 (.tmp 131), none⟩ ::
⟨(some 133), .mv (.tmp 3), none⟩ ::
⟨(some 134), .callF 17 [(.tmp 129), (.tmp 130), (.tmp 132), (.tmp 133)], none⟩ ::
⟨(some 135), .app 1 24 (.tmp 127) (.tmp 134), none⟩ ::
⟨(some 136), .callF 16 [(.tmp 135)], none⟩ ::
⟨(some 14), .mv (.tmp 136), none⟩ ::
[]))
.ret)))))))))))))
theorem prep3 : prepFunc Try.prog 3 = some F3 := by kernel_rfl

-- indenture/indenturelaw34.LightFollows
def F4 : AFunc where
  ntmps := 152
  nparams := 3
  results := [(6, none)]
  code :=
(.seq
(.plain (
⟨(some 6), .mv (.const (.bool false)), none⟩ ::
[]))
(.seq
(.seq
(.plain (
⟨(some 18), .callF 6 [], none⟩ ::
⟨(some 19), .un .not (.tmp 18), none⟩ ::
[]))
(.cond (.tmp 19)
(.seq
(.plain (
⟨(some 6), .mv (.const (.bool false)), none⟩ ::
[]))
.ret)
.skip))
(.seq
(.seq
(.plain (
⟨(some 20), .mv (.tmp 0), none⟩ ::
⟨(some 21), .len (.tmp 20), none⟩ ::
⟨(some 22), .bin .gtr (.tmp 21) (.const (.int .i64 30)), none⟩ ::
[]))
(.cond (.tmp 22)
(.seq
(.plain (
⟨(some 6), .mv (.const (.bool true)), none⟩ ::
[]))
.ret)
.skip))
(.seq
(.plain (
⟨(some 23), .mv (.tmp 0), none⟩ ::
⟨(some 24), .mv (.tmp 1), none⟩ ::
⟨(some 25), .cvt .i64 (.tmp 24), none⟩ ::
⟨(some 26), .mv (.tmp 0), none⟩ ::
⟨(some 27), .len (.tmp 26), none⟩ ::
⟨(some 28), .bin .add (.tmp 27) (.const (.int .i64 1)), none⟩ ::
⟨(some 29), .bin .rem (.tmp 25) (.tmp 28), none⟩ ::
⟨(some 30), .callF 7 [(.tmp 23), (.tmp 29)], none⟩ ::
⟨(some 7), .alloc 26 ([(.v (.int .i64 0))] ++ List.replicate 64 (.v (.int .u8 0))), none⟩ ::
⟨none, .store 65 (.tmp 7) (.tmp 30), none⟩ ::
[]))
(.seq
(.draw (
⟨(some 32), .load true 65 (.tmp 7), none⟩ ::
⟨(some 33), .callF 9 [(.tmp 32)], none⟩ ::
⟨(some 34), .load true 65 (.tmp 7), none⟩ ::
⟨(some 35), .callF 8 [(.tmp 33), (.tmp 34)], none⟩ ::
⟨(some 31), .mv (.tmp 35), none⟩ ::
⟨(some 36), .ext (.tmp 31) 0, none⟩ ::
⟨(some 37), .ext (.tmp 31) 1, none⟩ ::
⟨(some 8), .mv (.tmp 36), none⟩ ::
⟨(some 9), .mv (.tmp 37), none⟩ ::
[])
(⟨0, [], []⟩ :: ⟨2, [], []⟩ :: ⟨1, [], [2]⟩ :: ⟨3, [], []⟩ :: ⟨4, [], []⟩ :: ⟨5, [], []⟩ :: ⟨6, [], []⟩ :: ⟨7, [], []⟩ :: ⟨8, [], []⟩ :: []))
(.seq
(.seq
(.plain (
⟨(some 38), .mv (.tmp 9), none⟩ ::
⟨(some 39), .bin .neq (.tmp 38) (.const (.int .i64 0)), none⟩ ::
⟨(some 40), .mv (.tmp 39), none⟩ ::
⟨(some 41), .mv (.tmp 8), (some (40, false))⟩ ::
⟨(some 42), .eqp false (.tmp 41) (.const (.pointer none)), (some (40, false))⟩ ::
⟨(some 43), .pick (.tmp 40) (.const (.bool true)) (.tmp 42), none⟩ ::
[]))
(.cond (.tmp 43)
(.seq
(.plain (
⟨(some 6), .mv (.const (.bool false)), none⟩ ::
[]))
.ret)
.skip))
(.seq
(.plain (
⟨(some 44), .load true 65 (.tmp 7), none⟩ ::
⟨(some 45), .bld ([(.v (.int .i64 0))] ++ List.replicate 64 (.v (.int .u8 0)) ++ [(.v (.int .i64 0))] ++ [(.v (.bool false))] ++ [(.v (.int .i64 0))] ++ List.replicate 64 (.v (.int .u8 0)) ++ [(.v (.int .i64 0))] ++ List.replicate 64 (.v (.int .u8 0))) [(0, 65, (.tmp 44))], none⟩ ::
⟨(some 46), .box 48 (.tmp 45), none⟩ ::
⟨(some 10), .mv (.tmp 46), none⟩ ::
[]))
(.seq
(.seq
(.plain (
⟨(some 11), .mv (.const (.int .i64 0)), none⟩ ::
[]))
(.block 0
(.loop
(.seq
(.seq
(.plain (
⟨(some 47), .mv (.tmp 11), none⟩ ::
⟨(some 48), .mv (.tmp 2), none⟩ ::
⟨(some 49), .len (.tmp 48), none⟩ ::
⟨(some 50), .bin .lss (.tmp 47) (.tmp 49), none⟩ ::
⟨(some 51), .mv (.tmp 50), none⟩ ::
⟨(some 52), .mv (.tmp 11), (some (51, true))⟩ ::
⟨(some 53), .bin .lss (.tmp 52) (.const (.int .i64 20)), (some (51, true))⟩ ::
⟨(some 54), .pick (.tmp 51) (.tmp 53) (.const (.bool false)), none⟩ ::
[]))
(.cond (.tmp 54)
.skip
(.exit 0)))
(.seq
(.block 1
(.seq
(.plain (
⟨(some 57), .mv (.tmp 2), none⟩ ::
⟨(some 58), .mv (.tmp 11), none⟩ ::
⟨(some 59), .iaS 102 (.tmp 57) (.tmp 58), none⟩ ::
⟨(some 60), .load true 102 (.tmp 59), none⟩ ::
⟨(some 12), .alloc 50 ([(.v (.int .u8 0))] ++ [(.v (.bool false))] ++ [(.v (.int .i64 0))] ++ List.replicate 64 (.v (.int .u8 0)) ++ [(.v (.bool false))] ++ List.replicate 32 (.v (.int .u8 0)) ++ [(.v (.bool false))] ++ [(.sl [] .nil)]), none⟩ ::
⟨none, .store 102 (.tmp 12) (.tmp 60), none⟩ ::
[]))
(.seq
(.seq
(.plain (
⟨(some 61), .fa 101 (.tmp 12), none⟩ ::
⟨(some 62), .load false 1 (.tmp 61), none⟩ ::
⟨(some 63), .len (.tmp 62), none⟩ ::
⟨(some 64), .bin .gtr (.tmp 63) (.const (.int .i64 100)), none⟩ ::
[]))
(.cond (.tmp 64)
(.seq
(.plain (
⟨(some 6), .mv (.const (.bool true)), none⟩ ::
[]))
.ret)
.skip))
(.seq
(.plain (
⟨(some 65), .fa 2 (.tmp 12), none⟩ ::
⟨(some 66), .load true 65 (.tmp 65), none⟩ ::
⟨(some 13), .alloc 26 ([(.v (.int .i64 0))] ++ List.replicate 64 (.v (.int .u8 0))), none⟩ ::
⟨none, .store 65 (.tmp 13) (.tmp 66), none⟩ ::
[]))
(.seq
(.seq
(.plain (
⟨(some 67), .fa 1 (.tmp 12), none⟩ ::
⟨(some 68), .load false 1 (.tmp 67), none⟩ ::
⟨(some 69), .un .not (.tmp 68), none⟩ ::
[]))
(.cond (.tmp 69)
(.plain (
⟨(some 70), .mv (.tmp 0), none⟩ ::
⟨(some 71), .fa 0 (.tmp 12), none⟩ ::
⟨(some 72), .load false 1 (.tmp 71), none⟩ ::
⟨(some 73), .cvt .i64 (.tmp 72), none⟩ ::
⟨(some 74), .mv (.tmp 0), none⟩ ::
⟨(some 75), .len (.tmp 74), none⟩ ::
⟨(some 76), .bin .add (.tmp 75) (.const (.int .i64 1)), none⟩ ::
⟨(some 77), .bin .rem (.tmp 73) (.tmp 76), none⟩ ::
⟨(some 78), .callF 7 [(.tmp 70), (.tmp 77)], none⟩ ::
⟨none, .store 65 (.tmp 13) (.tmp 78), none⟩ ::
[]))
.skip))
(.seq
(.plain (
⟨(some 79), .load true 65 (.tmp 13), none⟩ ::
⟨(some 80), .callF 9 [(.tmp 79)], none⟩ ::
⟨(some 14), .alloc 24 (List.replicate 32 (.v (.int .u8 0))), none⟩ ::
⟨none, .store 32 (.tmp 14) (.tmp 80), none⟩ ::
[]))
(.seq
(.seq
(.plain (
⟨(some 81), .fa 67 (.tmp 12), none⟩ ::
⟨(some 82), .load false 1 (.tmp 81), none⟩ ::
[]))
(.cond (.tmp 82)
(.plain (
⟨(some 83), .fa 68 (.tmp 12), none⟩ ::
⟨(some 84), .load true 32 (.tmp 83), none⟩ ::
⟨none, .store 32 (.tmp 14) (.tmp 84), none⟩ ::
[]))
.skip))
(.seq
(.plain (
⟨(some 85), .fa 101 (.tmp 12), none⟩ ::
⟨(some 86), .load false 1 (.tmp 85), none⟩ ::
⟨(some 15), .mv (.tmp 86), none⟩ ::
[]))
(.seq
(.seq
(.plain (
⟨(some 87), .fa 100 (.tmp 12), none⟩ ::
⟨(some 88), .load false 1 (.tmp 87), none⟩ ::
⟨(some 89), .un .not (.tmp 88), none⟩ ::
⟨(some 90), .mv (.tmp 89), none⟩ ::
⟨(some 91), .mv (.tmp 10), (some (90, true))⟩ ::
⟨(some 92), .nilc (.tmp 91), (some (90, true))⟩ ::
⟨(some 93), .fa 0 (.tmp 92), (some (90, true))⟩ ::
⟨(some 94), .fa 0 (.tmp 93), (some (90, true))⟩ ::
⟨(some 95), .load false 1 (.tmp 94), (some (90, true))⟩ ::
⟨(some 96), .mv (.tmp 0), (some (90, true))⟩ ::
⟨(some 97), .len (.tmp 96), (some (90, true))⟩ ::
⟨(some 98), .bin .leq (.tmp 95) (.tmp 97), (some (90, true))⟩ ::
⟨(some 99), .pick (.tmp 90) (.tmp 98) (.const (.bool false)), none⟩ ::
[]))
(.cond (.tmp 99)
(.draw (
⟨(some 101), .mv (.tmp 0), none⟩ ::
⟨(some 102), .fa 0 (.tmp 13), none⟩ ::
⟨(some 103), .load false 1 (.tmp 102), none⟩ ::
⟨(some 104), .mm true .i64 (.tmp 103) (.const (.int .i64 0)), none⟩ ::
⟨(some 105), .mv (.tmp 0), none⟩ ::
⟨(some 106), .len (.tmp 105), none⟩ ::
⟨(some 107), .mm false .i64 (.tmp 104) (.tmp 106), none⟩ ::
⟨(some 108), .slc 32 (.tmp 101) none (some (.tmp 107)), none⟩ ::
⟨(some 109), .mv (.tmp 10), none⟩ ::
⟨(some 110), .nilc (.tmp 109), none⟩ ::
⟨(some 111), .fa 0 (.tmp 110), none⟩ ::
⟨(some 112), .fa 0 (.tmp 111), none⟩ ::
⟨(some 113), .load false 1 (.tmp 112), none⟩ ::
⟨(some 114), .callF 18 [(.tmp 108), (.tmp 113)], none⟩ ::
⟨(some 100), .mv (.tmp 114), none⟩ ::
⟨(some 115), .ext (.tmp 100) 0, none⟩ ::
⟨(some 116), .ext (.tmp 100) 1, none⟩ ::
⟨(some 15), .mv (.tmp 115), none⟩ ::
[])
(⟨0, [], []⟩ :: ⟨1, [], []⟩ :: ⟨2, [], []⟩ :: ⟨3, [], []⟩ :: ⟨4, [], []⟩ :: ⟨5, [], []⟩ :: ⟨6, [], []⟩ :: ⟨7, [], []⟩ :: ⟨8, [], []⟩ :: ⟨9, [], []⟩ :: ⟨10, [], []⟩ :: ⟨11, [], []⟩ :: ⟨12, [], []⟩ :: ⟨13, [], []⟩ :: ⟨14, [], []⟩ :: ⟨15, [], []⟩ :: ⟨16, [], []⟩ :: ⟨17, [], []⟩ :: []))
.skip))
(.seq
(.seq
(.draw (
⟨(some 117), .mv (.tmp 8), none⟩ ::
⟨(some 118), .load true 32 (.tmp 14), none⟩ ::
⟨(some 119), .load true 65 (.tmp 13), none⟩ ::
⟨(some 120), .mv (.tmp 15), none⟩ ::
⟨(some 121), .callF 10 [(.tmp 117), (.tmp 118), (.tmp 119), (.tmp 120)], none⟩ ::
⟨(some 122), .mv (.tmp 10), none⟩ ::
⟨(some 123), .load true 32 (.tmp 14), none⟩ ::
⟨(some 124), .load true 65 (.tmp 13), none⟩ ::
⟨(some 125), .mv (.tmp 15), none⟩ ::
⟨(some 126), .callF 19 [(.tmp 122), (.tmp 123), (.tmp 124), (.tmp 125)], none⟩ ::
⟨(some 127), .bin .neq (.tmp 121) (.tmp 126), none⟩ ::
⟨(some 128), .mv (.tmp 127), none⟩ ::
⟨(some 129), .mv (.tmp 8), (some (128, false))⟩ ::
⟨(some 130), .mv (.tmp 10), (some (128, false))⟩ ::
⟨(some 131), .callF 20 [(.tmp 129), (.tmp 130)], (some (128, false))⟩ ::
⟨(some 132), .un .not (.tmp 131), (some (128, false))⟩ ::
⟨(some 133), .pick (.tmp 128) (.const (.bool true)) (.tmp 132), none⟩ ::
[])
(⟨0, [], []⟩ :: ⟨1, [], []⟩ :: ⟨2, [], []⟩ :: ⟨3, [], []⟩ :: ⟨5, [], []⟩ :: ⟨6, [], []⟩ :: ⟨7, [], []⟩ :: ⟨8, [], []⟩ :: ⟨4, [], [6, 7]⟩ :: ⟨9, [], []⟩ :: ⟨10, [], []⟩ :: ⟨11, [], []⟩ :: ⟨12, [], []⟩ :: ⟨13, [], []⟩ :: ⟨14, [], []⟩ :: ⟨15, [], []⟩ :: ⟨16, [], []⟩ :: []))
(.cond (.tmp 133)
(.seq
(.plain (
⟨(some 6), .mv (.const (.bool false)), none⟩ ::
[]))
.ret)
.skip))
(.seq
(.plain (
⟨(some 135), .mv (.tmp 8), none⟩ ::
⟨(some 136), .callF 22 [(.tmp 135)], none⟩ ::
⟨(some 137), .callF 21 [(.tmp 136)], none⟩ ::
⟨(some 134), .mv (.tmp 137), none⟩ ::
⟨(some 138), .ext (.tmp 134) 0, none⟩ ::
⟨(some 139), .ext (.tmp 134) 1, none⟩ ::
⟨(some 16), .mv (.tmp 138), none⟩ ::
⟨(some 17), .mv (.tmp 139), none⟩ ::
[]))
(.seq
(.plain (
⟨(some 140), .mv (.tmp 17), none⟩ ::
⟨(some 141), .bin .neq (.tmp 140) (.const (.int .i64 0)), none⟩ ::
⟨(some 142), .mv (.tmp 141), none⟩ ::
⟨(some 143), .mv (.tmp 16), (some (142, false))⟩ ::
⟨(some 144), .eqp false (.tmp 143) (.const (.pointer none)), (some (142, false))⟩ ::
⟨(some 145), .pick (.tmp 142) (.const (.bool true)) (.tmp 144), none⟩ ::
⟨(some 146), .mv (.tmp 145), none⟩ ::
⟨(some 147), .mv (.tmp 16), (some (146, false))⟩ ::
⟨(some 148), .mv (.tmp 10), (some (146, false))⟩ ::
⟨(some 149), .callF 20 [(.tmp 147), (.tmp 148)], (some (146, false))⟩ ::
⟨(some 150), .un .not (.tmp 149), (some (146, false))⟩ ::
⟨(some 151), .pick (.tmp 146) (.const (.bool true)) (.tmp 150), none⟩ ::
[]))
(.cond (.tmp 151)
(.seq
(.plain (
⟨(some 6), .mv (.const (.bool false)), none⟩ ::
[]))
.ret)
.skip)))))))))))))
(.plain (
⟨(some 55), .mv (.tmp 11), none⟩ ::
⟨(some 56), .bin .add (.tmp 55) (.const (.int .i64 1)), none⟩ ::
⟨(some 11), .mv (.tmp 56), none⟩ ::
[])))))))
(.seq
(.plain (
⟨(some 6), .mv (.const (.bool true)), none⟩ ::
[]))
.ret)))))))))
theorem prep4 : prepFunc Try.prog 4 = some F4 := by kernel_rfl

-- indenture/indenturelaw34.LightLoads
def F5 : AFunc where
  ntmps := 102
  nparams := 5
  results := [(10, none)]
  code :=
(.seq
(.plain (
⟨(some 5), .box 48 (.tmp 0), none⟩ ::
⟨(some 10), .mv (.const (.bool false)), none⟩ ::
[]))
(.seq
(.seq
(.plain (
⟨(some 17), .callF 6 [], none⟩ ::
⟨(some 18), .un .not (.tmp 17), none⟩ ::
[]))
(.cond (.tmp 18)
(.seq
(.plain (
⟨(some 10), .mv (.const (.bool false)), none⟩ ::
[]))
.ret)
.skip))
(.seq
(.seq
(.plain (
⟨(some 19), .mv (.tmp 4), none⟩ ::
⟨(some 20), .len (.tmp 19), none⟩ ::
⟨(some 21), .bin .gtr (.tmp 20) (.const (.int .i64 300)), none⟩ ::
[]))
(.cond (.tmp 21)
(.seq
(.plain (
⟨(some 10), .mv (.const (.bool true)), none⟩ ::
[]))
.ret)
.skip))
(.seq
(.plain (
⟨(some 22), .callF 23 [(.tmp 5)], none⟩ ::
⟨(some 23), .mv (.tmp 4), none⟩ ::
⟨(some 24), .app 1 1 (.tmp 22) (.tmp 23), none⟩ ::
⟨(some 11), .mv (.tmp 24), none⟩ ::
[]))
(.seq
(.seq
(.plain (
⟨(some 25), .mv (.tmp 1), none⟩ ::
⟨(some 26), .bin .geq (.tmp 25) (.const (.int .i64 0)), none⟩ ::
⟨(some 27), .mv (.tmp 26), none⟩ ::
⟨(some 28), .mv (.tmp 1), (some (27, true))⟩ ::
⟨(some 29), .mv (.tmp 11), (some (27, true))⟩ ::
⟨(some 30), .len (.tmp 29), (some (27, true))⟩ ::
⟨(some 31), .bin .lss (.tmp 28) (.tmp 30), (some (27, true))⟩ ::
⟨(some 32), .pick (.tmp 27) (.tmp 31) (.const (.bool false)), none⟩ ::
[]))
(.cond (.tmp 32)
(.plain (
⟨(some 33), .mv (.tmp 11), none⟩ ::
⟨(some 34), .mv (.tmp 1), none⟩ ::
⟨(some 35), .mv (.tmp 11), none⟩ ::
⟨(some 36), .mv (.tmp 1), none⟩ ::
⟨(some 37), .iaS 1 (.tmp 35) (.tmp 36), none⟩ ::
⟨(some 38), .load false 1 (.tmp 37), none⟩ ::
⟨(some 39), .mv (.tmp 2), none⟩ ::
⟨(some 40), .bin .xor (.tmp 38) (.tmp 39), none⟩ ::
⟨(some 41), .iaS 1 (.tmp 33) (.tmp 34), none⟩ ::
⟨none, .store 1 (.tmp 41) (.tmp 40), none⟩ ::
[]))
.skip))
(.seq
(.seq
(.plain (
⟨(some 42), .mv (.tmp 3), none⟩ ::
⟨(some 43), .bin .geq (.tmp 42) (.const (.int .i64 0)), none⟩ ::
⟨(some 44), .mv (.tmp 43), none⟩ ::
⟨(some 45), .mv (.tmp 3), (some (44, true))⟩ ::
⟨(some 46), .mv (.tmp 11), (some (44, true))⟩ ::
⟨(some 47), .len (.tmp 46), (some (44, true))⟩ ::
⟨(some 48), .bin .lss (.tmp 45) (.tmp 47), (some (44, true))⟩ ::
⟨(some 49), .pick (.tmp 44) (.tmp 48) (.const (.bool false)), none⟩ ::
[]))
(.cond (.tmp 49)
(.plain (
⟨(some 50), .mv (.tmp 11), none⟩ ::
⟨(some 51), .mv (.tmp 3), none⟩ ::
⟨(some 52), .slc 1 (.tmp 50) none (some (.tmp 51)), none⟩ ::
⟨(some 11), .mv (.tmp 52), none⟩ ::
[]))
.skip))
(.seq
(.plain (
⟨(some 54), .mv (.tmp 11), none⟩ ::
⟨(some 55), .callF 21 [(.tmp 54)], none⟩ ::
⟨(some 53), .mv (.tmp 55), none⟩ ::
⟨(some 56), .ext (.tmp 53) 0, none⟩ ::
⟨(some 57), .ext (.tmp 53) 1, none⟩ ::
⟨(some 12), .mv (.tmp 56), none⟩ ::
⟨(some 13), .mv (.tmp 57), none⟩ ::
[]))
(.seq
(.seq
(.plain (
⟨(some 58), .mv (.tmp 13), none⟩ ::
⟨(some 59), .bin .neq (.tmp 58) (.const (.int .i64 0)), none⟩ ::
[]))
(.cond (.tmp 59)
(.seq
(.plain (
⟨(some 60), .mv (.tmp 13), none⟩ ::
⟨(some 61), .bin .eql (.tmp 60) (.const (.int .i64 21)), none⟩ ::
⟨(some 62), .mv (.tmp 61), none⟩ ::
⟨(some 63), .mv (.tmp 12), (some (62, true))⟩ ::
⟨(some 64), .eqp false (.tmp 63) (.const (.pointer none)), (some (62, true))⟩ ::
⟨(some 65), .pick (.tmp 62) (.tmp 64) (.const (.bool false)), none⟩ ::
⟨(some 10), .mv (.tmp 65), none⟩ ::
[]))
.ret)
.skip))
(.seq
(.plain (
⟨(some 67), .mv (.tmp 12), none⟩ ::
⟨(some 68), .callF 24 [(.tmp 67)], none⟩ ::
⟨(some 66), .mv (.tmp 68), none⟩ ::
⟨(some 69), .ext (.tmp 66) 0, none⟩ ::
⟨(some 70), .ext (.tmp 66) 1, none⟩ ::
⟨(some 71), .ext (.tmp 66) 2, none⟩ ::
⟨(some 14), .alloc 26 ([(.v (.int .i64 0))] ++ List.replicate 64 (.v (.int .u8 0))), none⟩ ::
⟨(some 15), .alloc 26 ([(.v (.int .i64 0))] ++ List.replicate 64 (.v (.int .u8 0))), none⟩ ::
⟨none, .store 65 (.tmp 14) (.tmp 69), none⟩ ::
⟨none, .store 65 (.tmp 15) (.tmp 70), none⟩ ::
⟨(some 16), .mv (.tmp 71), none⟩ ::
[]))
(.seq
(.seq
(.plain (
⟨(some 72), .mv (.tmp 16), none⟩ ::
⟨(some 73), .mv (.tmp 72), none⟩ ::
⟨(some 74), .fa 0 (.tmp 14), (some (73, true))⟩ ::
⟨(some 75), .load false 1 (.tmp 74), (some (73, true))⟩ ::
⟨(some 76), .fa 0 (.tmp 15), (some (73, true))⟩ ::
⟨(some 77), .load false 1 (.tmp 76), (some (73, true))⟩ ::
⟨(some 78), .bin .gtr (.tmp 75) (.tmp 77), (some (73, true))⟩ ::
⟨(some 79), .mv (.tmp 78), (some (73, true))⟩ ::
⟨(some 80), .load true 65 (.tmp 14), (some (79, false))⟩ ::
⟨(some 81), .load true 65 (.tmp 15), (some (79, false))⟩ ::
⟨(some 82), .eqv false [(1, .int .i64), (64, .int .u8)] (.tmp 80) (.tmp 81), (some (79, false))⟩ ::
⟨(some 83), .pick (.tmp 79) (.const (.bool true)) (.tmp 82), (some (73, true))⟩ ::
⟨(some 84), .pick (.tmp 73) (.tmp 83) (.const (.bool false)), none⟩ ::
[]))
(.cond (.tmp 84)
(.seq
(.plain (
⟨(some 10), .mv (.const (.bool false)), none⟩ ::
[]))
.ret)
.skip))
(.seq
(.draw (
⟨(some 85), .mv (.tmp 12), none⟩ ::
⟨(some 86), .callF 22 [(.tmp 85)], none⟩ ::
⟨(some 87), .b2s (.tmp 86), none⟩ ::
⟨(some 88), .mv (.tmp 11), none⟩ ::
⟨(some 89), .b2s (.tmp 88), none⟩ ::
⟨(some 90), .bin .eql (.tmp 87) (.tmp 89), none⟩ ::
⟨(some 91), .mv (.tmp 90), none⟩ ::
⟨(some 92), .mv (.tmp 12), (some (91, true))⟩ ::
⟨(some 93), .callF 11 [(.tmp 92)], (some (91, true))⟩ ::
⟨(some 94), .fld false 0 1 (.tmp 93), (some (91, true))⟩ ::
⟨(some 95), .bin .geq (.tmp 94) (.const (.int .i64 0)), (some (91, true))⟩ ::
⟨(some 96), .pick (.tmp 91) (.tmp 95) (.const (.bool false)), none⟩ ::
⟨(some 97), .mv (.tmp 96), none⟩ ::
⟨(some 98), .mv (.tmp 12), (some (97, true))⟩ ::
⟨(some 99), .callF 13 [(.tmp 98)], (some (97, true))⟩ ::
⟨(some 100), .bin .geq (.tmp 99) (.const (.int .i64 0)), (some (97, true))⟩ ::
⟨(some 101), .pick (.tmp 97) (.tmp 100) (.const (.bool false)), none⟩ ::
⟨(some 10), .mv (.tmp 101), none⟩ ::
[])
(⟨0, [], []⟩ :: ⟨3, [], []⟩ :: ⟨4, [], []⟩ :: ⟨1, [], []⟩ :: ⟨2, [], []⟩ :: ⟨5, [], []⟩ :: ⟨6, [], []⟩ :: ⟨7, [], []⟩ :: ⟨8, [], []⟩ :: ⟨9, [], []⟩ :: ⟨10, [], []⟩ :: ⟨11, [], []⟩ :: ⟨12, [], []⟩ :: ⟨13, [], []⟩ :: ⟨14, [], []⟩ :: ⟨15, [], []⟩ :: ⟨16, [], []⟩ :: ⟨17, [], []⟩ :: []))
.ret)))))))))))
theorem prep5 : prepFunc Try.prog 5 = some F5 := by kernel_rfl

-- indenture/indenturelaw34.alive
def F6 : AFunc where
  ntmps := 80
  nparams := 0
  results := [(0, none)]
  code :=
(.seq
(.plain (
⟨(some 0), .mv (.const (.bool false)), none⟩ ::
[]))
(.seq
(.plain (
⟨(some 13), .bld (List.replicate 32 (.v (.int .u8 0))) [(0, 1, (.const (.int .u8 1)))], none⟩ ::
⟨(some 14), .bld (List.replicate 32 (.v (.int .u8 0))) [(0, 1, (.const (.int .u8 2)))], none⟩ ::
⟨(some 15), .bld (List.replicate 32 (.v (.int .u8 0))) [(0, 1, (.const (.int .u8 3)))], none⟩ ::
⟨(some 16), .bsl 32 [(.tmp 13), (.tmp 14), (.tmp 15)], none⟩ ::
⟨(some 1), .mv (.tmp 16), none⟩ ::
[]))
(.seq
(.plain (
⟨(some 17), .mv (.tmp 1), none⟩ ::
⟨(some 18), .callF 7 [(.tmp 17), (.const (.int .i64 1))], none⟩ ::
⟨(some 19), .mv (.tmp 1), none⟩ ::
⟨(some 20), .callF 7 [(.tmp 19), (.const (.int .i64 3))], none⟩ ::
⟨(some 2), .alloc 26 ([(.v (.int .i64 0))] ++ List.replicate 64 (.v (.int .u8 0))), none⟩ ::
⟨(some 3), .alloc 26 ([(.v (.int .i64 0))] ++ List.replicate 64 (.v (.int .u8 0))), none⟩ ::
⟨none, .store 65 (.tmp 2) (.tmp 18), none⟩ ::
⟨none, .store 65 (.tmp 3) (.tmp 20), none⟩ ::
[]))
(.seq
(.draw (
⟨(some 22), .load true 65 (.tmp 2), none⟩ ::
⟨(some 23), .callF 9 [(.tmp 22)], none⟩ ::
⟨(some 24), .load true 65 (.tmp 2), none⟩ ::
⟨(some 25), .callF 8 [(.tmp 23), (.tmp 24)], none⟩ ::
⟨(some 21), .mv (.tmp 25), none⟩ ::
⟨(some 26), .ext (.tmp 21) 0, none⟩ ::
⟨(some 27), .ext (.tmp 21) 1, none⟩ ::
⟨(some 4), .mv (.tmp 26), none⟩ ::
⟨(some 5), .mv (.tmp 27), none⟩ ::
[])
(⟨0, [], []⟩ :: ⟨2, [], []⟩ :: ⟨1, [], [2]⟩ :: ⟨3, [], []⟩ :: ⟨4, [], []⟩ :: ⟨5, [], []⟩ :: ⟨6, [], []⟩ :: ⟨7, [], []⟩ :: ⟨8, [], []⟩ :: []))
(.seq
(.seq
(.plain (
⟨(some 28), .mv (.tmp 5), none⟩ ::
⟨(some 29), .bin .neq (.tmp 28) (.const (.int .i64 0)), none⟩ ::
⟨(some 30), .mv (.tmp 29), none⟩ ::
⟨(some 31), .mv (.tmp 4), (some (30, false))⟩ ::
⟨(some 32), .eqp false (.tmp 31) (.const (.pointer none)), (some (30, false))⟩ ::
⟨(some 33), .pick (.tmp 30) (.const (.bool true)) (.tmp 32), none⟩ ::
[]))
(.cond (.tmp 33)
(.seq
(.plain (
⟨(some 0), .mv (.const (.bool false)), none⟩ ::
[]))
.ret)
.skip))
(.seq
(.plain (
⟨(some 35), .mv (.tmp 1), none⟩ ::
⟨(some 36), .callF 18 [(.tmp 35), (.const (.int .i64 1))], none⟩ ::
⟨(some 34), .mv (.tmp 36), none⟩ ::
⟨(some 37), .ext (.tmp 34) 0, none⟩ ::
⟨(some 38), .ext (.tmp 34) 1, none⟩ ::
⟨(some 6), .mv (.tmp 37), none⟩ ::
⟨(some 7), .mv (.tmp 38), none⟩ ::
[]))
(.seq
(.draw (
⟨(some 39), .mv (.tmp 4), none⟩ ::
⟨(some 40), .load true 65 (.tmp 3), none⟩ ::
⟨(some 41), .callF 9 [(.tmp 40)], none⟩ ::
⟨(some 42), .load true 65 (.tmp 3), none⟩ ::
⟨(some 43), .mv (.tmp 6), none⟩ ::
⟨(some 44), .callF 10 [(.tmp 39), (.tmp 41), (.tmp 42), (.tmp 43)], none⟩ ::
⟨(some 8), .mv (.tmp 44), none⟩ ::
[])
(⟨0, [], []⟩ :: ⟨1, [], []⟩ :: ⟨3, [], []⟩ :: ⟨4, [], []⟩ :: ⟨2, [], [3]⟩ :: ⟨5, [], []⟩ :: ⟨6, [], []⟩ :: []))
(.seq
(.draw (
⟨(some 45), .mv (.tmp 4), none⟩ ::
⟨(some 46), .load true 65 (.tmp 2), none⟩ ::
⟨(some 47), .callF 9 [(.tmp 46)], none⟩ ::
⟨(some 48), .load true 65 (.tmp 2), none⟩ ::
⟨(some 49), .callF 10 [(.tmp 45), (.tmp 47), (.tmp 48), (.const (.slice none 0 0))], none⟩ ::
⟨(some 9), .mv (.tmp 49), none⟩ ::
[])
(⟨0, [], []⟩ :: ⟨1, [], []⟩ :: ⟨3, [], []⟩ :: ⟨2, [], [3]⟩ :: ⟨4, [], []⟩ :: ⟨5, [], []⟩ :: []))
(.seq
(.plain (
⟨(some 51), .mv (.tmp 4), none⟩ ::
⟨(some 52), .callF 24 [(.tmp 51)], none⟩ ::
⟨(some 50), .mv (.tmp 52), none⟩ ::
⟨(some 53), .ext (.tmp 50) 0, none⟩ ::
⟨(some 54), .ext (.tmp 50) 1, none⟩ ::
⟨(some 55), .ext (.tmp 50) 2, none⟩ ::
⟨(some 10), .alloc 26 ([(.v (.int .i64 0))] ++ List.replicate 64 (.v (.int .u8 0))), none⟩ ::
⟨(some 11), .alloc 26 ([(.v (.int .i64 0))] ++ List.replicate 64 (.v (.int .u8 0))), none⟩ ::
⟨none, .store 65 (.tmp 10) (.tmp 53), none⟩ ::
⟨none, .store 65 (.tmp 11) (.tmp 54), none⟩ ::
⟨(some 12), .mv (.tmp 55), none⟩ ::
[]))
(.seq
(.plain (
⟨(some 56), .mv (.tmp 8), none⟩ ::
⟨(some 57), .bin .eql (.tmp 56) (.const (.int .i64 0)), none⟩ ::
⟨(some 58), .mv (.tmp 57), none⟩ ::
⟨(some 59), .mv (.tmp 9), (some (58, true))⟩ ::
⟨(some 60), .bin .eql (.tmp 59) (.const (.int .i64 42)), (some (58, true))⟩ ::
⟨(some 61), .pick (.tmp 58) (.tmp 60) (.const (.bool false)), none⟩ ::
⟨(some 62), .mv (.tmp 61), none⟩ ::
⟨(some 63), .mv (.tmp 12), (some (62, true))⟩ ::
⟨(some 64), .pick (.tmp 62) (.tmp 63) (.const (.bool false)), none⟩ ::
⟨(some 65), .mv (.tmp 64), none⟩ ::
⟨(some 66), .load true 65 (.tmp 10), (some (65, true))⟩ ::
⟨(some 67), .load true 65 (.tmp 2), (some (65, true))⟩ ::
⟨(some 68), .eqv false [(1, .int .i64), (64, .int .u8)] (.tmp 66) (.tmp 67), (some (65, true))⟩ ::
⟨(some 69), .pick (.tmp 65) (.tmp 68) (.const (.bool false)), none⟩ ::
⟨(some 70), .mv (.tmp 69), none⟩ ::
⟨(some 71), .load true 65 (.tmp 11), (some (70, true))⟩ ::
⟨(some 72), .load true 65 (.tmp 3), (some (70, true))⟩ ::
⟨(some 73), .eqv false [(1, .int .i64), (64, .int .u8)] (.tmp 71) (.tmp 72), (some (70, true))⟩ ::
⟨(some 74), .pick (.tmp 70) (.tmp 73) (.const (.bool false)), none⟩ ::
⟨(some 75), .mv (.tmp 74), none⟩ ::
⟨(some 76), .mv (.tmp 4), (some (75, true))⟩ ::
⟨(some 77), .callF 13 [(.tmp 76)], (some (75, true))⟩ ::
⟨(some 78), .bin .eql (.tmp 77) (.const (.int .i64 1)), (some (75, true))⟩ ::
⟨(some 79), .pick (.tmp 75) (.tmp 78) (.const (.bool false)), none⟩ ::
⟨(some 0), .mv (.tmp 79), none⟩ ::
[]))
.ret))))))))))
theorem prep6 : prepFunc Try.prog 6 = some F6 := by kernel_rfl

-- indenture/indenturelaw34.opened
def F7 : AFunc where
  ntmps := 21
  nparams := 2
  results := [(4, (some (true, 65)))]
  code :=
(.seq
(.plain (
⟨(some 4), .alloc 26 ([(.v (.int .i64 0))] ++ List.replicate 64 (.v (.int .u8 0))), none⟩ ::
[]))
(.seq
(.plain (
⟨(some 6), .mv (.tmp 1), none⟩ ::
⟨(some 7), .mv (.tmp 0), none⟩ ::
⟨(some 8), .mv (.tmp 1), none⟩ ::
⟨(some 9), .slc 32 (.tmp 7) none (some (.tmp 8)), none⟩ ::
⟨(some 10), .callF 25 [(.tmp 9)], none⟩ ::
⟨(some 11), .bld ([(.v (.int .i64 0))] ++ List.replicate 64 (.v (.int .u8 0))) [(0, 1, (.tmp 6)), (1, 32, (.tmp 10))], none⟩ ::
⟨(some 5), .alloc 26 ([(.v (.int .i64 0))] ++ List.replicate 64 (.v (.int .u8 0))), none⟩ ::
⟨none, .store 65 (.tmp 5) (.tmp 11), none⟩ ::
[]))
(.seq
(.seq
(.plain (
⟨(some 12), .mv (.tmp 1), none⟩ ::
⟨(some 13), .bin .gtr (.tmp 12) (.const (.int .i64 0)), none⟩ ::
[]))
(.cond (.tmp 13)
(.plain (
⟨(some 14), .mv (.tmp 0), none⟩ ::
⟨(some 15), .mv (.tmp 1), none⟩ ::
⟨(some 16), .bin .sub (.tmp 15) (.const (.int .i64 1)), none⟩ ::
⟨(some 17), .iaS 32 (.tmp 14) (.tmp 16), none⟩ ::
⟨(some 18), .load true 32 (.tmp 17), none⟩ ::
⟨(some 19), .fa 33 (.tmp 5), none⟩ ::
⟨none, .store 32 (.tmp 19) (.tmp 18), none⟩ ::
[]))
.skip))
(.seq
(.plain (
⟨(some 20), .load true 65 (.tmp 5), none⟩ ::
⟨none, .store 65 (.tmp 4) (.tmp 20), none⟩ ::
[]))
.ret))))
theorem prep7 : prepFunc Try.prog 7 = some F7 := by kernel_rfl

-- indenture/light.Follow
def F8 : AFunc where
  ntmps := 18
  nparams := 2
  results := [(4, none), (5, none)]
  code :=
(.seq
(.plain (
⟨(some 2), .box 24 (.tmp 0), none⟩ ::
⟨(some 3), .box 26 (.tmp 1), none⟩ ::
⟨(some 4), .mv (.const (.pointer none)), none⟩ ::
⟨(some 5), .mv (.const (.int .i64 0)), none⟩ ::
[]))
(.seq
(.block 0
(.seq
(.draw (
⟨(some 7), .load true 65 (.tmp 3), none⟩ ::
⟨(some 8), .callF 26 [(.tmp 7)], none⟩ ::
⟨(some 9), .load true 32 (.tmp 2), none⟩ ::
⟨(some 10), .eqv true [(32, .int .u8)] (.tmp 8) (.tmp 9), none⟩ ::
⟨(some 6), .mv (.tmp 10), none⟩ ::
[])
(⟨0, [], []⟩ :: ⟨2, [], []⟩ :: ⟨1, [], [2]⟩ :: ⟨3, [], []⟩ :: ⟨4, [], []⟩ :: []))
(.cond (.tmp 6)
(.seq
(.plain (
⟨(some 4), .mv (.const (.pointer none)), none⟩ ::
⟨(some 5), .mv (.const (.int .i64 41)), none⟩ ::
[]))
.ret)
(.seq
(.plain (
⟨(some 12), .load true 65 (.tmp 3), none⟩ ::
⟨(some 13), .callF 27 [(.tmp 12)], none⟩ ::
⟨(some 14), .un .not (.tmp 13), none⟩ ::
⟨(some 11), .mv (.tmp 14), none⟩ ::
[]))
(.cond (.tmp 11)
(.seq
(.plain (
⟨(some 4), .mv (.const (.pointer none)), none⟩ ::
⟨(some 5), .mv (.const (.int .i64 1)), none⟩ ::
[]))
.ret)
.skip)))))
(.seq
(.plain (
⟨(some 15), .load true 65 (.tmp 3), none⟩ ::
⟨(some 16), .bld ([(.v (.int .i64 0))] ++ List.replicate 64 (.v (.int .u8 0)) ++ [(.v (.int .i64 0))] ++ [(.v (.pointer none))]) [(0, 65, (.tmp 15))], none⟩ ::
⟨(some 17), .box 64 (.tmp 16), none⟩ ::
⟨(some 4), .mv (.tmp 17), none⟩ ::
⟨(some 5), .mv (.const (.int .i64 0)), none⟩ ::
[]))
.ret)))
theorem prep8 : prepFunc Try.prog 8 = some F8 := by kernel_rfl

-- indenture/ledger.Sum
def F9 : AFunc where
  ntmps := 5
  nparams := 1
  results := [(2, (some (true, 32)))]
  code :=
(.seq
(.plain (
⟨(some 1), .box 26 (.tmp 0), none⟩ ::
⟨(some 2), .alloc 24 (List.replicate 32 (.v (.int .u8 0))), none⟩ ::
[]))
(.seq
(.plain (
⟨(some 3), .load true 65 (.tmp 1), none⟩ ::
⟨(some 4), .callF 26 [(.tmp 3)], none⟩ ::
⟨none, .store 32 (.tmp 2) (.tmp 4), none⟩ ::
[]))
.ret))
theorem prep9 : prepFunc Try.prog 9 = some F9 := by kernel_rfl

-- (*indenture/light.Follower).Next
def F10 : AFunc where
  ntmps := 64
  nparams := 4
  results := [(8, none)]
  code :=
(.seq
(.plain (
⟨(some 5), .box 24 (.tmp 1), none⟩ ::
⟨(some 6), .box 26 (.tmp 2), none⟩ ::
⟨(some 8), .mv (.const (.int .i64 0)), none⟩ ::
[]))
(.seq
(.block 0
(.seq
(.draw (
⟨(some 10), .load true 65 (.tmp 6), none⟩ ::
⟨(some 11), .callF 26 [(.tmp 10)], none⟩ ::
⟨(some 12), .load true 32 (.tmp 5), none⟩ ::
⟨(some 13), .eqv true [(32, .int .u8)] (.tmp 11) (.tmp 12), none⟩ ::
⟨(some 9), .mv (.tmp 13), none⟩ ::
[])
(⟨0, [], []⟩ :: ⟨2, [], []⟩ :: ⟨1, [], [2]⟩ :: ⟨3, [], []⟩ :: ⟨4, [], []⟩ :: []))
(.cond (.tmp 9)
(.seq
(.plain (
⟨(some 8), .mv (.const (.int .i64 41)), none⟩ ::
[]))
.ret)
(.seq
(.draw (
⟨(some 15), .load true 32 (.tmp 5), none⟩ ::
⟨(some 16), .mv (.tmp 0), none⟩ ::
⟨(some 17), .callF 28 [(.tmp 16)], none⟩ ::
⟨(some 18), .eqv false [(32, .int .u8)] (.tmp 15) (.tmp 17), none⟩ ::
⟨(some 14), .mv (.tmp 18), none⟩ ::
[])
(⟨0, [], []⟩ :: ⟨1, [], []⟩ :: ⟨2, [], [0]⟩ :: ⟨3, [], []⟩ :: ⟨4, [], []⟩ :: []))
(.cond (.tmp 14)
(.seq
(.plain (
⟨(some 8), .mv (.const (.int .i64 0)), none⟩ ::
[]))
.ret)
(.seq
(.plain (
⟨(some 20), .load true 65 (.tmp 6), none⟩ ::
⟨(some 21), .callF 27 [(.tmp 20)], none⟩ ::
⟨(some 22), .un .not (.tmp 21), none⟩ ::
⟨(some 19), .mv (.tmp 22), none⟩ ::
[]))
(.cond (.tmp 19)
(.seq
(.plain (
⟨(some 8), .mv (.const (.int .i64 42)), none⟩ ::
[]))
.ret)
(.seq
(.draw (
⟨(some 24), .fa 0 (.tmp 6), none⟩ ::
⟨(some 25), .load false 1 (.tmp 24), none⟩ ::
⟨(some 26), .mv (.tmp 0), none⟩ ::
⟨(some 27), .nilc (.tmp 26), none⟩ ::
⟨(some 28), .fa 0 (.tmp 27), none⟩ ::
⟨(some 29), .fa 0 (.tmp 28), none⟩ ::
⟨(some 30), .load false 1 (.tmp 29), none⟩ ::
⟨(some 31), .bin .leq (.tmp 25) (.tmp 30), none⟩ ::
⟨(some 23), .mv (.tmp 31), none⟩ ::
[])
(⟨0, [], []⟩ :: ⟨1, [], []⟩ :: ⟨2, [], []⟩ :: ⟨3, [], []⟩ :: ⟨4, [], []⟩ :: ⟨5, [], []⟩ :: ⟨6, [], []⟩ :: ⟨7, [], []⟩ :: ⟨8, [], []⟩ :: []))
(.cond (.tmp 23)
(.seq
(.plain (
⟨(some 32), .mv (.tmp 0), none⟩ ::
⟨(some 33), .load true 65 (.tmp 6), none⟩ ::
⟨(some 34), .callF 29 [(.tmp 32), (.tmp 33)], none⟩ ::
[]))
(.seq
(.plain (
⟨(some 8), .mv (.const (.int .i64 42)), none⟩ ::
[]))
.ret))
(.seq
(.draw (
⟨(some 36), .mv (.tmp 0), none⟩ ::
⟨(some 37), .nilc (.tmp 36), none⟩ ::
⟨(some 38), .fa 0 (.tmp 37), none⟩ ::
⟨(some 39), .fa 1 (.tmp 38), none⟩ ::
⟨(some 40), .load true 32 (.tmp 39), none⟩ ::
⟨(some 41), .mv (.tmp 0), none⟩ ::
⟨(some 42), .nilc (.tmp 41), none⟩ ::
⟨(some 43), .fa 0 (.tmp 42), none⟩ ::
⟨(some 44), .fa 0 (.tmp 43), none⟩ ::
⟨(some 45), .load false 1 (.tmp 44), none⟩ ::
⟨(some 46), .fa 1 (.tmp 6), none⟩ ::
⟨(some 47), .load true 32 (.tmp 46), none⟩ ::
⟨(some 48), .fa 0 (.tmp 6), none⟩ ::
⟨(some 49), .load false 1 (.tmp 48), none⟩ ::
⟨(some 50), .mv (.tmp 3), none⟩ ::
⟨(some 51), .callF 30 [(.tmp 40), (.tmp 45), (.tmp 47), (.tmp 49), (.tmp 50)], none⟩ ::
⟨(some 52), .un .not (.tmp 51), none⟩ ::
⟨(some 35), .mv (.tmp 52), none⟩ ::
[])
(⟨0, [], []⟩ :: ⟨1, [], []⟩ :: ⟨2, [], []⟩ :: ⟨3, [], []⟩ :: ⟨4, [], []⟩ :: ⟨5, [], []⟩ :: ⟨6, [], []⟩ :: ⟨7, [], []⟩ :: ⟨8, [], []⟩ :: ⟨9, [], []⟩ :: ⟨10, [], []⟩ :: ⟨11, [], []⟩ :: ⟨12, [], []⟩ :: ⟨13, [], []⟩ :: ⟨14, [], []⟩ :: ⟨15, [], []⟩ :: ⟨16, [], []⟩ :: ⟨17, [], []⟩ :: []))
(.cond (.tmp 35)
(.seq
(.plain (
⟨(some 8), .mv (.const (.int .i64 42)), none⟩ ::
[]))
.ret)
.skip)))))))))))
(.seq
(.plain (
⟨(some 53), .mv (.tmp 0), none⟩ ::
⟨(some 54), .load true 65 (.tmp 6), none⟩ ::
⟨(some 55), .nilc (.tmp 53), none⟩ ::
⟨(some 56), .fa 0 (.tmp 55), none⟩ ::
⟨none, .store 65 (.tmp 56) (.tmp 54), none⟩ ::
[]))
(.seq
(.plain (
⟨(some 57), .mv (.tmp 0), none⟩ ::
⟨(some 58), .nilc (.tmp 57), none⟩ ::
⟨(some 59), .fa 65 (.tmp 58), none⟩ ::
⟨(some 60), .load false 1 (.tmp 59), none⟩ ::
⟨(some 61), .bin .add (.tmp 60) (.const (.int .i64 1)), none⟩ ::
⟨(some 62), .nilc (.tmp 57), none⟩ ::
⟨(some 63), .fa 65 (.tmp 62), none⟩ ::
⟨none, .store 1 (.tmp 63) (.tmp 61), none⟩ ::
[]))
(.seq
(.plain (
⟨(some 8), .mv (.const (.int .i64 0)), none⟩ ::
[]))
.ret)))))
theorem prep10 : prepFunc Try.prog 10 = some F10 := by kernel_rfl

-- (*indenture/light.Follower).Opening
def F11 : AFunc where
  ntmps := 7
  nparams := 1
  results := [(2, (some (true, 65)))]
  code :=
(.seq
(.plain (
⟨(some 2), .alloc 26 ([(.v (.int .i64 0))] ++ List.replicate 64 (.v (.int .u8 0))), none⟩ ::
[]))
(.seq
(.plain (
⟨(some 3), .mv (.tmp 0), none⟩ ::
⟨(some 4), .nilc (.tmp 3), none⟩ ::
⟨(some 5), .fa 0 (.tmp 4), none⟩ ::
⟨(some 6), .load true 65 (.tmp 5), none⟩ ::
⟨none, .store 65 (.tmp 2) (.tmp 6), none⟩ ::
[]))
.ret))
theorem prep11 : prepFunc Try.prog 11 = some F11 := by kernel_rfl

-- indenture/history.InPath
def F12 : AFunc where
  ntmps := 32
  nparams := 5
  results := [(10, none)]
  code :=
(.seq
(.plain (
⟨(some 5), .box 24 (.tmp 0), none⟩ ::
⟨(some 8), .box 24 (.tmp 3), none⟩ ::
⟨(some 10), .mv (.const (.bool false)), none⟩ ::
[]))
(.seq
(.plain (
⟨(some 14), .mv (.tmp 1), none⟩ ::
⟨(some 15), .mv (.tmp 2), none⟩ ::
⟨(some 16), .load true 32 (.tmp 8), none⟩ ::
⟨(some 17), .mv (.tmp 4), none⟩ ::
⟨(some 18), .callF 31 [(.tmp 14), (.tmp 15), (.tmp 16), (.tmp 17)], none⟩ ::
⟨(some 13), .mv (.tmp 18), none⟩ ::
⟨(some 19), .ext (.tmp 13) 0, none⟩ ::
⟨(some 20), .ext (.tmp 13) 1, none⟩ ::
⟨(some 12), .alloc 24 (List.replicate 32 (.v (.int .u8 0))), none⟩ ::
⟨(some 11), .mv (.tmp 19), none⟩ ::
⟨none, .store 32 (.tmp 12) (.tmp 20), none⟩ ::
[]))
(.seq
(.plain (
⟨(some 21), .mv (.tmp 11), none⟩ ::
⟨(some 22), .eqp true (.tmp 21) (.const (.pointer none)), none⟩ ::
⟨(some 23), .mv (.tmp 22), none⟩ ::
⟨(some 24), .mv (.tmp 11), (some (23, true))⟩ ::
⟨(some 25), .callF 32 [(.tmp 24)], (some (23, true))⟩ ::
⟨(some 26), .pick (.tmp 23) (.tmp 25) (.const (.bool false)), none⟩ ::
⟨(some 27), .mv (.tmp 26), none⟩ ::
⟨(some 28), .load true 32 (.tmp 12), (some (27, true))⟩ ::
⟨(some 29), .load true 32 (.tmp 5), (some (27, true))⟩ ::
⟨(some 30), .eqv false [(32, .int .u8)] (.tmp 28) (.tmp 29), (some (27, true))⟩ ::
⟨(some 31), .pick (.tmp 27) (.tmp 30) (.const (.bool false)), none⟩ ::
⟨(some 10), .mv (.tmp 31), none⟩ ::
[]))
.ret)))
theorem prep12 : prepFunc Try.prog 12 = some F12 := by kernel_rfl

-- (*indenture/light.Follower).Steps
def F13 : AFunc where
  ntmps := 7
  nparams := 1
  results := [(2, none)]
  code :=
(.seq
(.plain (
⟨(some 2), .mv (.const (.int .i64 0)), none⟩ ::
[]))
(.seq
(.plain (
⟨(some 3), .mv (.tmp 0), none⟩ ::
⟨(some 4), .nilc (.tmp 3), none⟩ ::
⟨(some 5), .fa 65 (.tmp 4), none⟩ ::
⟨(some 6), .load false 1 (.tmp 5), none⟩ ::
⟨(some 2), .mv (.tmp 6), none⟩ ::
[]))
.ret))
theorem prep13 : prepFunc Try.prog 13 = some F13 := by kernel_rfl

-- indenture/history.Path
def F14 : AFunc where
  ntmps := 17
  nparams := 2
  results := [(4, none), (5, none)]
  code :=
(.seq
(.plain (
⟨(some 4), .mv (.const (.slice none 0 0)), none⟩ ::
⟨(some 5), .mv (.const (.int .i64 0)), none⟩ ::
[]))
(.seq
(.seq
(.plain (
⟨(some 6), .mv (.tmp 1), none⟩ ::
⟨(some 7), .bin .lss (.tmp 6) (.const (.int .i64 0)), none⟩ ::
⟨(some 8), .mv (.tmp 7), none⟩ ::
⟨(some 9), .mv (.tmp 1), (some (8, false))⟩ ::
⟨(some 10), .mv (.tmp 0), (some (8, false))⟩ ::
⟨(some 11), .len (.tmp 10), (some (8, false))⟩ ::
⟨(some 12), .bin .geq (.tmp 9) (.tmp 11), (some (8, false))⟩ ::
⟨(some 13), .pick (.tmp 8) (.const (.bool true)) (.tmp 12), none⟩ ::
[]))
(.cond (.tmp 13)
(.seq
(.plain (
⟨(some 4), .mv (.const (.slice none 0 0)), none⟩ ::
⟨(some 5), .mv (.const (.int .i64 1)), none⟩ ::
[]))
.ret)
.skip))
(.seq
(.plain (
⟨(some 14), .mv (.tmp 0), none⟩ ::
⟨(some 15), .mv (.tmp 1), none⟩ ::
⟨(some 16), .callF 33 [(.tmp 14), (.tmp 15)], none⟩ ::
⟨(some 4), .mv (.tmp 16), none⟩ ::
⟨(some 5), .mv (.const (.int .i64 0)), none⟩ ::
[]))
.ret)))
theorem prep14 : prepFunc Try.prog 14 = some F14 := by kernel_rfl

-- indenture/history.PathPreimages
def F15 : AFunc where
  ntmps := 25
  nparams := 4
  results := [(8, none)]
  code :=
(.seq
(.plain (
⟨(some 6), .box 24 (.tmp 2), none⟩ ::
⟨(some 8), .mv (.const (.slice none 0 0)), none⟩ ::
[]))
(.seq
(.plain (
⟨(some 12), .mv (.tmp 0), none⟩ ::
⟨(some 13), .mv (.tmp 1), none⟩ ::
⟨(some 14), .load true 32 (.tmp 6), none⟩ ::
⟨(some 15), .mv (.tmp 3), none⟩ ::
⟨(some 16), .callF 31 [(.tmp 12), (.tmp 13), (.tmp 14), (.tmp 15)], none⟩ ::
⟨(some 11), .mv (.tmp 16), none⟩ ::
⟨(some 17), .ext (.tmp 11) 0, none⟩ ::
⟨(some 18), .ext (.tmp 11) 1, none⟩ ::
⟨(some 10), .alloc 24 (List.replicate 32 (.v (.int .u8 0))), none⟩ ::
⟨(some 9), .mv (.tmp 17), none⟩ ::
⟨none, .store 32 (.tmp 10) (.tmp 18), none⟩ ::
[]))
(.seq
(.seq
(.plain (
⟨(some 19), .mv (.tmp 9), none⟩ ::
⟨(some 20), .eqp false (.tmp 19) (.const (.pointer none)), none⟩ ::
[]))
(.cond (.tmp 20)
(.seq
(.plain (
⟨(some 8), .mv (.const (.slice none 0 0)), none⟩ ::
[]))
.ret)
.skip))
(.seq
(.plain (
⟨(some 21), .mv (.tmp 9), none⟩ ::
⟨(some 22), .nilc (.tmp 21), none⟩ ::
⟨(some 23), .fa 1 (.tmp 22), none⟩ ::
⟨(some 24), .load false 1 (.tmp 23), none⟩ ::
⟨(some 8), .mv (.tmp 24), none⟩ ::
[]))
.ret))))
theorem prep15 : prepFunc Try.prog 15 = some F15 := by kernel_rfl

-- indenture/indenturelaw18.Clash
def F16 : AFunc where
  ntmps := 54
  nparams := 1
  results := [(2, none)]
  code :=
(.seq
(.plain (
⟨(some 2), .mv (.const (.bool false)), none⟩ ::
[]))
(.seq
(.plain (
⟨(some 3), .mv (.const (.slice none 0 0)), none⟩ ::
[]))
(.seq
(.seq
(.plain (
⟨(some 4), .mv (.const (.int .i64 0)), none⟩ ::
[]))
(.block 0
(.loop
(.seq
(.seq
(.plain (
⟨(some 7), .mv (.tmp 4), none⟩ ::
⟨(some 8), .mv (.tmp 0), none⟩ ::
⟨(some 9), .len (.tmp 8), none⟩ ::
⟨(some 10), .bin .lss (.tmp 7) (.tmp 9), none⟩ ::
[]))
(.cond (.tmp 10)
.skip
(.exit 0)))
(.seq
(.block 1
(.plain (
⟨(some 13), .mv (.tmp 3), none⟩ ::
⟨(some 14), .mv (.tmp 0), none⟩ ::
⟨(some 15), .mv (.tmp 4), none⟩ ::
⟨(some 16), .iaS 1 (.tmp 14) (.tmp 15), none⟩ ::
⟨(some 17), .load false 1 (.tmp 16), none⟩ ::
⟨(some 18), .callF 34 [(.tmp 17)], none⟩ ::
⟨(some 19), .bsl 32 [(.tmp 18)], none⟩ ::
⟨(some 20), .app 32 32 (.tmp 13) (.tmp 19), none⟩ ::
⟨(some 3), .mv (.tmp 20), none⟩ ::
[])))
(.plain (
⟨(some 11), .mv (.tmp 4), none⟩ ::
⟨(some 12), .bin .add (.tmp 11) (.const (.int .i64 1)), none⟩ ::
⟨(some 4), .mv (.tmp 12), none⟩ ::
[])))))))
(.seq
(.seq
(.plain (
⟨(some 5), .mv (.const (.int .i64 0)), none⟩ ::
[]))
(.block 2
(.loop
(.seq
(.seq
(.plain (
⟨(some 21), .mv (.tmp 5), none⟩ ::
⟨(some 22), .mv (.tmp 0), none⟩ ::
⟨(some 23), .len (.tmp 22), none⟩ ::
⟨(some 24), .bin .lss (.tmp 21) (.tmp 23), none⟩ ::
[]))
(.cond (.tmp 24)
.skip
(.exit 2)))
(.seq
(.block 3
(.seq
(.plain (
⟨(some 6), .mv (.const (.int .i64 0)), none⟩ ::
[]))
(.block 4
(.loop
(.seq
(.seq
(.plain (
⟨(some 27), .mv (.tmp 6), none⟩ ::
⟨(some 28), .mv (.tmp 5), none⟩ ::
⟨(some 29), .bin .lss (.tmp 27) (.tmp 28), none⟩ ::
[]))
(.cond (.tmp 29)
.skip
(.exit 4)))
(.seq
(.block 5
(.seq
(.draw (
⟨(some 32), .mv (.tmp 3), none⟩ ::
⟨(some 33), .mv (.tmp 5), none⟩ ::
⟨(some 34), .iaS 32 (.tmp 32) (.tmp 33), none⟩ ::
⟨(some 35), .load true 32 (.tmp 34), none⟩ ::
⟨(some 36), .mv (.tmp 3), none⟩ ::
⟨(some 37), .mv (.tmp 6), none⟩ ::
⟨(some 38), .iaS 32 (.tmp 36) (.tmp 37), none⟩ ::
⟨(some 39), .load true 32 (.tmp 38), none⟩ ::
⟨(some 40), .eqv false [(32, .int .u8)] (.tmp 35) (.tmp 39), none⟩ ::
⟨(some 41), .mv (.tmp 40), none⟩ ::
⟨(some 42), .mv (.tmp 0), (some (41, true))⟩ ::
⟨(some 43), .mv (.tmp 5), (some (41, true))⟩ ::
⟨(some 44), .iaS 1 (.tmp 42) (.tmp 43), (some (41, true))⟩ ::
⟨(some 45), .load false 1 (.tmp 44), (some (41, true))⟩ ::
⟨(some 46), .b2s (.tmp 45), (some (41, true))⟩ ::
⟨(some 47), .mv (.tmp 0), (some (41, true))⟩ ::
⟨(some 48), .mv (.tmp 6), (some (41, true))⟩ ::
⟨(some 49), .iaS 1 (.tmp 47) (.tmp 48), (some (41, true))⟩ ::
⟨(some 50), .load false 1 (.tmp 49), (some (41, true))⟩ ::
⟨(some 51), .b2s (.tmp 50), (some (41, true))⟩ ::
⟨(some 52), .bin .neq (.tmp 46) (.tmp 51), (some (41, true))⟩ ::
⟨(some 53), .pick (.tmp 41) (.tmp 52) (.const (.bool false)), none⟩ ::
[])
(⟨0, [], []⟩ :: ⟨1, [], []⟩ :: ⟨2, [], []⟩ :: ⟨3, [], []⟩ :: ⟨4, [], []⟩ :: ⟨5, [], []⟩ :: ⟨6, [], []⟩ :: ⟨7, [], []⟩ :: ⟨8, [], []⟩ :: ⟨9, [], []⟩ :: ⟨10, [], []⟩ :: ⟨11, [], []⟩ :: ⟨12, [], []⟩ :: ⟨13, [], []⟩ :: ⟨14, [], []⟩ :: ⟨15, [], []⟩ :: ⟨16, [], []⟩ :: ⟨17, [], []⟩ :: ⟨18, [], []⟩ :: ⟨19, [], []⟩ :: ⟨20, [], []⟩ :: ⟨21, [], []⟩ :: []))
(.cond (.tmp 53)
(.seq
(.plain (
⟨(some 2), .mv (.const (.bool true)), none⟩ ::
[]))
.ret)
.skip)))
(.plain (
⟨(some 30), .mv (.tmp 6), none⟩ ::
⟨(some 31), .bin .add (.tmp 30) (.const (.int .i64 1)), none⟩ ::
⟨(some 6), .mv (.tmp 31), none⟩ ::
[]))))))))
(.plain (
⟨(some 25), .mv (.tmp 5), none⟩ ::
⟨(some 26), .bin .add (.tmp 25) (.const (.int .i64 1)), none⟩ ::
⟨(some 5), .mv (.tmp 26), none⟩ ::
[])))))))
(.seq
(.plain (
⟨(some 2), .mv (.const (.bool false)), none⟩ ::
[]))
.ret)))))
theorem prep16 : prepFunc Try.prog 16 = some F16 := by kernel_rfl

-- indenture/history.GrowthPreimages
def F17 : AFunc where
  ntmps := 33
  nparams := 4
  results := [(8, none)]
  code :=
(.seq
(.plain (
⟨(some 4), .box 24 (.tmp 0), none⟩ ::
⟨(some 8), .mv (.const (.slice none 0 0)), none⟩ ::
[]))
(.seq
(.seq
(.plain (
⟨(some 10), .mv (.tmp 1), none⟩ ::
⟨(some 11), .bin .lss (.tmp 10) (.const (.int .i64 1)), none⟩ ::
⟨(some 12), .mv (.tmp 11), none⟩ ::
⟨(some 13), .mv (.tmp 1), (some (12, false))⟩ ::
⟨(some 14), .mv (.tmp 2), (some (12, false))⟩ ::
⟨(some 15), .bin .gtr (.tmp 13) (.tmp 14), (some (12, false))⟩ ::
⟨(some 16), .pick (.tmp 12) (.const (.bool true)) (.tmp 15), none⟩ ::
⟨(some 17), .mv (.tmp 16), none⟩ ::
⟨(some 18), .mv (.tmp 2), (some (17, false))⟩ ::
⟨(some 19), .bin .gtr (.tmp 18) (.const (.int .i64 1099511627776)), (some (17, false))⟩ ::
⟨(some 20), .pick (.tmp 17) (.const (.bool true)) (.tmp 19), none⟩ ::
[]))
(.cond (.tmp 20)
(.seq
(.plain (
⟨(some 8), .mv (.const (.slice none 0 0)), none⟩ ::
[]))
.ret)
.skip))
(.seq
(.plain (
⟨(some 21), .mv (.tmp 3), none⟩ ::
⟨(some 22), .bld [(.sl [] .nil), (.sl [] .nil), (.v (.bool false))] [(0, 1, (.tmp 21))], none⟩ ::
⟨(some 23), .box 73 (.tmp 22), none⟩ ::
⟨(some 9), .mv (.tmp 23), none⟩ ::
[]))
(.seq
(.plain (
⟨(some 24), .mv (.tmp 9), none⟩ ::
⟨(some 25), .load true 32 (.tmp 4), none⟩ ::
⟨(some 26), .mv (.tmp 1), none⟩ ::
⟨(some 27), .mv (.tmp 2), none⟩ ::
⟨(some 28), .callF 35 [(.tmp 24), (.tmp 25), (.tmp 26), (.tmp 27), (.const (.bool true))], none⟩ ::
[]))
(.seq
(.plain (
⟨(some 29), .mv (.tmp 9), none⟩ ::
⟨(some 30), .nilc (.tmp 29), none⟩ ::
⟨(some 31), .fa 1 (.tmp 30), none⟩ ::
⟨(some 32), .load false 1 (.tmp 31), none⟩ ::
⟨(some 8), .mv (.tmp 32), none⟩ ::
[]))
.ret)))))
theorem prep17 : prepFunc Try.prog 17 = some F17 := by kernel_rfl

-- indenture/history.Growth
def F18 : AFunc where
  ntmps := 21
  nparams := 2
  results := [(4, none), (5, none)]
  code :=
(.seq
(.plain (
⟨(some 4), .mv (.const (.slice none 0 0)), none⟩ ::
⟨(some 5), .mv (.const (.int .i64 0)), none⟩ ::
[]))
(.seq
(.block 0
(.seq
(.plain (
⟨(some 7), .mv (.tmp 1), none⟩ ::
⟨(some 8), .bin .lss (.tmp 7) (.const (.int .i64 0)), none⟩ ::
⟨(some 9), .mv (.tmp 8), none⟩ ::
⟨(some 10), .mv (.tmp 1), (some (9, false))⟩ ::
⟨(some 11), .mv (.tmp 0), (some (9, false))⟩ ::
⟨(some 12), .len (.tmp 11), (some (9, false))⟩ ::
⟨(some 13), .bin .gtr (.tmp 10) (.tmp 12), (some (9, false))⟩ ::
⟨(some 14), .pick (.tmp 9) (.const (.bool true)) (.tmp 13), none⟩ ::
⟨(some 6), .mv (.tmp 14), none⟩ ::
[]))
(.cond (.tmp 6)
(.seq
(.plain (
⟨(some 4), .mv (.const (.slice none 0 0)), none⟩ ::
⟨(some 5), .mv (.const (.int .i64 1)), none⟩ ::
[]))
.ret)
(.seq
(.plain (
⟨(some 16), .mv (.tmp 1), none⟩ ::
⟨(some 17), .bin .eql (.tmp 16) (.const (.int .i64 0)), none⟩ ::
⟨(some 15), .mv (.tmp 17), none⟩ ::
[]))
(.cond (.tmp 15)
(.seq
(.plain (
⟨(some 4), .mv (.const (.slice none 0 0)), none⟩ ::
⟨(some 5), .mv (.const (.int .i64 0)), none⟩ ::
[]))
.ret)
.skip)))))
(.seq
(.plain (
⟨(some 18), .mv (.tmp 0), none⟩ ::
⟨(some 19), .mv (.tmp 1), none⟩ ::
⟨(some 20), .callF 36 [(.tmp 18), (.tmp 19), (.const (.bool true))], none⟩ ::
⟨(some 4), .mv (.tmp 20), none⟩ ::
⟨(some 5), .mv (.const (.int .i64 0)), none⟩ ::
[]))
.ret)))
theorem prep18 : prepFunc Try.prog 18 = some F18 := by kernel_rfl

-- (*indenture/indentureref34.Follower).Next
def F19 : AFunc where
  ntmps := 84
  nparams := 4
  results := [(8, none)]
  code :=
(.seq
(.plain (
⟨(some 5), .box 24 (.tmp 1), none⟩ ::
⟨(some 6), .box 26 (.tmp 2), none⟩ ::
⟨(some 8), .mv (.const (.int .i64 0)), none⟩ ::
[]))
(.seq
(.seq
(.draw (
⟨(some 9), .load true 65 (.tmp 6), none⟩ ::
⟨(some 10), .callF 37 [(.tmp 9)], none⟩ ::
⟨(some 11), .load true 32 (.tmp 5), none⟩ ::
⟨(some 12), .eqv true [(32, .int .u8)] (.tmp 10) (.tmp 11), none⟩ ::
[])
(⟨0, [], []⟩ :: ⟨2, [], []⟩ :: ⟨1, [], [2]⟩ :: ⟨3, [], []⟩ :: []))
(.cond (.tmp 12)
(.seq
(.plain (
⟨(some 8), .mv (.const (.int .i64 41)), none⟩ ::
[]))
.ret)
.skip))
(.seq
(.seq
(.draw (
⟨(some 13), .load true 32 (.tmp 5), none⟩ ::
⟨(some 14), .mv (.tmp 0), none⟩ ::
⟨(some 15), .nilc (.tmp 14), none⟩ ::
⟨(some 16), .fa 0 (.tmp 15), none⟩ ::
⟨(some 17), .load true 65 (.tmp 16), none⟩ ::
⟨(some 18), .callF 37 [(.tmp 17)], none⟩ ::
⟨(some 19), .eqv false [(32, .int .u8)] (.tmp 13) (.tmp 18), none⟩ ::
[])
(⟨0, [], []⟩ :: ⟨1, [], []⟩ :: ⟨2, [], []⟩ :: ⟨3, [], []⟩ :: ⟨4, [], []⟩ :: ⟨5, [], [0]⟩ :: ⟨6, [], []⟩ :: []))
(.cond (.tmp 19)
(.seq
(.plain (
⟨(some 8), .mv (.const (.int .i64 0)), none⟩ ::
[]))
.ret)
.skip))
(.seq
(.seq
(.plain (
⟨(some 20), .fa 0 (.tmp 6), none⟩ ::
⟨(some 21), .load false 1 (.tmp 20), none⟩ ::
⟨(some 22), .bin .lss (.tmp 21) (.const (.int .i64 0)), none⟩ ::
⟨(some 23), .mv (.tmp 22), none⟩ ::
⟨(some 24), .fa 0 (.tmp 6), (some (23, false))⟩ ::
⟨(some 25), .load false 1 (.tmp 24), (some (23, false))⟩ ::
⟨(some 26), .bin .gtr (.tmp 25) (.const (.int .i64 1099511627776)), (some (23, false))⟩ ::
⟨(some 27), .pick (.tmp 23) (.const (.bool true)) (.tmp 26), none⟩ ::
[]))
(.cond (.tmp 27)
(.seq
(.plain (
⟨(some 8), .mv (.const (.int .i64 42)), none⟩ ::
[]))
.ret)
.skip))
(.seq
(.seq
(.draw (
⟨(some 28), .fa 0 (.tmp 6), none⟩ ::
⟨(some 29), .load false 1 (.tmp 28), none⟩ ::
⟨(some 30), .mv (.tmp 0), none⟩ ::
⟨(some 31), .nilc (.tmp 30), none⟩ ::
⟨(some 32), .fa 0 (.tmp 31), none⟩ ::
⟨(some 33), .fa 0 (.tmp 32), none⟩ ::
⟨(some 34), .load false 1 (.tmp 33), none⟩ ::
⟨(some 35), .bin .leq (.tmp 29) (.tmp 34), none⟩ ::
[])
(⟨0, [], []⟩ :: ⟨1, [], []⟩ :: ⟨2, [], []⟩ :: ⟨3, [], []⟩ :: ⟨4, [], []⟩ :: ⟨5, [], []⟩ :: ⟨6, [], []⟩ :: ⟨7, [], []⟩ :: []))
(.cond (.tmp 35)
(.seq
(.seq
(.plain (
⟨(some 36), .mv (.tmp 0), none⟩ ::
⟨(some 37), .nilc (.tmp 36), none⟩ ::
⟨(some 38), .fa 66 (.tmp 37), none⟩ ::
⟨(some 39), .load false 1 (.tmp 38), none⟩ ::
⟨(some 40), .un .not (.tmp 39), none⟩ ::
[]))
(.cond (.tmp 40)
(.seq
(.plain (
⟨(some 41), .mv (.tmp 0), none⟩ ::
⟨(some 42), .nilc (.tmp 41), none⟩ ::
⟨(some 43), .fa 66 (.tmp 42), none⟩ ::
⟨none, .store 1 (.tmp 43) (.const (.bool true)), none⟩ ::
[]))
(.seq
(.plain (
⟨(some 44), .mv (.tmp 0), none⟩ ::
⟨(some 45), .load true 65 (.tmp 6), none⟩ ::
⟨(some 46), .nilc (.tmp 44), none⟩ ::
⟨(some 47), .fa 67 (.tmp 46), none⟩ ::
⟨none, .store 65 (.tmp 47) (.tmp 45), none⟩ ::
[]))
(.plain (
⟨(some 48), .mv (.tmp 0), none⟩ ::
⟨(some 49), .mv (.tmp 0), none⟩ ::
⟨(some 50), .nilc (.tmp 49), none⟩ ::
⟨(some 51), .fa 0 (.tmp 50), none⟩ ::
⟨(some 52), .load true 65 (.tmp 51), none⟩ ::
⟨(some 53), .nilc (.tmp 48), none⟩ ::
⟨(some 54), .fa 132 (.tmp 53), none⟩ ::
⟨none, .store 65 (.tmp 54) (.tmp 52), none⟩ ::
[]))))
.skip))
(.seq
(.plain (
⟨(some 8), .mv (.const (.int .i64 42)), none⟩ ::
[]))
.ret))
.skip))
(.seq
(.seq
(.draw (
⟨(some 55), .mv (.tmp 0), none⟩ ::
⟨(some 56), .nilc (.tmp 55), none⟩ ::
⟨(some 57), .fa 0 (.tmp 56), none⟩ ::
⟨(some 58), .fa 1 (.tmp 57), none⟩ ::
⟨(some 59), .load true 32 (.tmp 58), none⟩ ::
⟨(some 60), .mv (.tmp 0), none⟩ ::
⟨(some 61), .nilc (.tmp 60), none⟩ ::
⟨(some 62), .fa 0 (.tmp 61), none⟩ ::
⟨(some 63), .fa 0 (.tmp 62), none⟩ ::
⟨(some 64), .load false 1 (.tmp 63), none⟩ ::
⟨(some 65), .fa 1 (.tmp 6), none⟩ ::
⟨(some 66), .load true 32 (.tmp 65), none⟩ ::
⟨(some 67), .fa 0 (.tmp 6), none⟩ ::
⟨(some 68), .load false 1 (.tmp 67), none⟩ ::
⟨(some 69), .mv (.tmp 3), none⟩ ::
⟨(some 70), .callF 38 [(.tmp 59), (.tmp 64), (.tmp 66), (.tmp 68), (.tmp 69)], none⟩ ::
⟨(some 71), .un .not (.tmp 70), none⟩ ::
[])
(⟨0, [], []⟩ :: ⟨1, [], []⟩ :: ⟨2, [], []⟩ :: ⟨3, [], []⟩ :: ⟨4, [], []⟩ :: ⟨5, [], []⟩ :: ⟨6, [], []⟩ :: ⟨7, [], []⟩ :: ⟨8, [], []⟩ :: ⟨9, [], []⟩ :: ⟨10, [], []⟩ :: ⟨11, [], []⟩ :: ⟨12, [], []⟩ :: ⟨13, [], []⟩ :: ⟨14, [], []⟩ :: ⟨15, [], []⟩ :: ⟨16, [], []⟩ :: []))
(.cond (.tmp 71)
(.seq
(.plain (
⟨(some 8), .mv (.const (.int .i64 42)), none⟩ ::
[]))
.ret)
.skip))
(.seq
(.plain (
⟨(some 72), .mv (.tmp 0), none⟩ ::
⟨(some 73), .load true 65 (.tmp 6), none⟩ ::
⟨(some 74), .nilc (.tmp 72), none⟩ ::
⟨(some 75), .fa 0 (.tmp 74), none⟩ ::
⟨none, .store 65 (.tmp 75) (.tmp 73), none⟩ ::
[]))
(.seq
(.plain (
⟨(some 76), .mv (.tmp 0), none⟩ ::
⟨(some 77), .mv (.tmp 0), none⟩ ::
⟨(some 78), .nilc (.tmp 77), none⟩ ::
⟨(some 79), .fa 65 (.tmp 78), none⟩ ::
⟨(some 80), .load false 1 (.tmp 79), none⟩ ::
⟨(some 81), .bin .add (.tmp 80) (.const (.int .i64 1)), none⟩ ::
⟨(some 82), .nilc (.tmp 76), none⟩ ::
⟨(some 83), .fa 65 (.tmp 82), none⟩ ::
⟨none, .store 1 (.tmp 83) (.tmp 81), none⟩ ::
[]))
(.seq
(.plain (
⟨(some 8), .mv (.const (.int .i64 0)), none⟩ ::
[]))
.ret)))))))))
theorem prep19 : prepFunc Try.prog 19 = some F19 := by kernel_rfl

-- indenture/indenturelaw34.same
def F20 : AFunc where
  ntmps := 73
  nparams := 2
  results := [(4, none)]
  code :=
(.seq
(.plain (
⟨(some 4), .mv (.const (.bool false)), none⟩ ::
[]))
(.seq
(.plain (
⟨(some 9), .mv (.tmp 0), none⟩ ::
⟨(some 10), .callF 24 [(.tmp 9)], none⟩ ::
⟨(some 8), .mv (.tmp 10), none⟩ ::
⟨(some 11), .ext (.tmp 8) 0, none⟩ ::
⟨(some 12), .ext (.tmp 8) 1, none⟩ ::
⟨(some 13), .ext (.tmp 8) 2, none⟩ ::
⟨(some 5), .alloc 26 ([(.v (.int .i64 0))] ++ List.replicate 64 (.v (.int .u8 0))), none⟩ ::
⟨(some 6), .alloc 26 ([(.v (.int .i64 0))] ++ List.replicate 64 (.v (.int .u8 0))), none⟩ ::
⟨none, .store 65 (.tmp 5) (.tmp 11), none⟩ ::
⟨none, .store 65 (.tmp 6) (.tmp 12), none⟩ ::
⟨(some 7), .mv (.tmp 13), none⟩ ::
[]))
(.seq
(.draw (
⟨(some 14), .mv (.tmp 0), none⟩ ::
⟨(some 15), .callF 11 [(.tmp 14)], none⟩ ::
⟨(some 16), .mv (.tmp 1), none⟩ ::
⟨(some 17), .nilc (.tmp 16), none⟩ ::
⟨(some 18), .fa 0 (.tmp 17), none⟩ ::
⟨(some 19), .load true 65 (.tmp 18), none⟩ ::
⟨(some 20), .eqv false [(1, .int .i64), (64, .int .u8)] (.tmp 15) (.tmp 19), none⟩ ::
⟨(some 21), .mv (.tmp 20), none⟩ ::
⟨(some 22), .mv (.tmp 0), (some (21, true))⟩ ::
⟨(some 23), .callF 28 [(.tmp 22)], (some (21, true))⟩ ::
⟨(some 24), .mv (.tmp 1), (some (21, true))⟩ ::
⟨(some 25), .nilc (.tmp 24), (some (21, true))⟩ ::
⟨(some 26), .fa 0 (.tmp 25), (some (21, true))⟩ ::
⟨(some 27), .load true 65 (.tmp 26), (some (21, true))⟩ ::
⟨(some 28), .callF 37 [(.tmp 27)], (some (21, true))⟩ ::
⟨(some 29), .eqv false [(32, .int .u8)] (.tmp 23) (.tmp 28), (some (21, true))⟩ ::
⟨(some 30), .pick (.tmp 21) (.tmp 29) (.const (.bool false)), none⟩ ::
⟨(some 31), .mv (.tmp 30), none⟩ ::
⟨(some 32), .mv (.tmp 0), (some (31, true))⟩ ::
⟨(some 33), .callF 13 [(.tmp 32)], (some (31, true))⟩ ::
⟨(some 34), .mv (.tmp 1), (some (31, true))⟩ ::
⟨(some 35), .nilc (.tmp 34), (some (31, true))⟩ ::
⟨(some 36), .fa 65 (.tmp 35), (some (31, true))⟩ ::
⟨(some 37), .load false 1 (.tmp 36), (some (31, true))⟩ ::
⟨(some 38), .bin .eql (.tmp 33) (.tmp 37), (some (31, true))⟩ ::
⟨(some 39), .pick (.tmp 31) (.tmp 38) (.const (.bool false)), none⟩ ::
⟨(some 40), .mv (.tmp 39), none⟩ ::
⟨(some 41), .mv (.tmp 7), (some (40, true))⟩ ::
⟨(some 42), .mv (.tmp 1), (some (40, true))⟩ ::
⟨(some 43), .nilc (.tmp 42), (some (40, true))⟩ ::
⟨(some 44), .fa 66 (.tmp 43), (some (40, true))⟩ ::
⟨(some 45), .load false 1 (.tmp 44), (some (40, true))⟩ ::
⟨(some 46), .eqb false (.tmp 41) (.tmp 45), (some (40, true))⟩ ::
⟨(some 47), .pick (.tmp 40) (.tmp 46) (.const (.bool false)), none⟩ ::
⟨(some 48), .mv (.tmp 47), none⟩ ::
⟨(some 49), .load true 65 (.tmp 5), (some (48, true))⟩ ::
⟨(some 50), .mv (.tmp 1), (some (48, true))⟩ ::
⟨(some 51), .nilc (.tmp 50), (some (48, true))⟩ ::
⟨(some 52), .fa 67 (.tmp 51), (some (48, true))⟩ ::
⟨(some 53), .load true 65 (.tmp 52), (some (48, true))⟩ ::
⟨(some 54), .eqv false [(1, .int .i64), (64, .int .u8)] (.tmp 49) (.tmp 53), (some (48, true))⟩ ::
⟨(some 55), .pick (.tmp 48) (.tmp 54) (.const (.bool false)), none⟩ ::
⟨(some 56), .mv (.tmp 55), none⟩ ::
⟨(some 57), .load true 65 (.tmp 6), (some (56, true))⟩ ::
⟨(some 58), .mv (.tmp 1), (some (56, true))⟩ ::
⟨(some 59), .nilc (.tmp 58), (some (56, true))⟩ ::
⟨(some 60), .fa 132 (.tmp 59), (some (56, true))⟩ ::
⟨(some 61), .load true 65 (.tmp 60), (some (56, true))⟩ ::
⟨(some 62), .eqv false [(1, .int .i64), (64, .int .u8)] (.tmp 57) (.tmp 61), (some (56, true))⟩ ::
⟨(some 63), .pick (.tmp 56) (.tmp 62) (.const (.bool false)), none⟩ ::
⟨(some 64), .mv (.tmp 63), none⟩ ::
⟨(some 65), .mv (.tmp 0), (some (64, true))⟩ ::
⟨(some 66), .callF 22 [(.tmp 65)], (some (64, true))⟩ ::
⟨(some 67), .b2s (.tmp 66), (some (64, true))⟩ ::
⟨(some 68), .mv (.tmp 1), (some (64, true))⟩ ::
⟨(some 69), .callF 23 [(.tmp 68)], (some (64, true))⟩ ::
⟨(some 70), .b2s (.tmp 69), (some (64, true))⟩ ::
⟨(some 71), .bin .eql (.tmp 67) (.tmp 70), (some (64, true))⟩ ::
⟨(some 72), .pick (.tmp 64) (.tmp 71) (.const (.bool false)), none⟩ ::
⟨(some 4), .mv (.tmp 72), none⟩ ::
[])
(⟨0, [], []⟩ :: ⟨2, [], []⟩ :: ⟨3, [], []⟩ :: ⟨4, [], []⟩ :: ⟨5, [], []⟩ :: ⟨1, [], [5]⟩ :: ⟨6, [], []⟩ :: ⟨7, [], []⟩ :: ⟨8, [], []⟩ :: ⟨10, [], []⟩ :: ⟨11, [], []⟩ :: ⟨12, [], []⟩ :: ⟨13, [], []⟩ :: ⟨9, [], [13]⟩ :: ⟨14, [], []⟩ :: ⟨15, [], []⟩ :: ⟨16, [], []⟩ :: ⟨17, [], []⟩ :: ⟨18, [], []⟩ :: ⟨20, [], []⟩ :: ⟨21, [], []⟩ :: ⟨22, [], []⟩ :: ⟨23, [], []⟩ :: ⟨19, [], [23]⟩ :: ⟨24, [], []⟩ :: ⟨25, [], []⟩ :: ⟨26, [], []⟩ :: ⟨27, [], []⟩ :: ⟨28, [], []⟩ :: ⟨29, [], []⟩ :: ⟨30, [], []⟩ :: ⟨31, [], []⟩ :: ⟨32, [], []⟩ :: ⟨33, [], []⟩ :: ⟨34, [], []⟩ :: ⟨35, [], []⟩ :: ⟨36, [], []⟩ :: ⟨37, [], []⟩ :: ⟨38, [], []⟩ :: ⟨39, [], []⟩ :: ⟨40, [], []⟩ :: ⟨41, [], []⟩ :: ⟨42, [], []⟩ :: ⟨43, [], []⟩ :: ⟨44, [], []⟩ :: ⟨45, [], []⟩ :: ⟨46, [], []⟩ :: ⟨47, [], []⟩ :: ⟨48, [], []⟩ :: ⟨49, [], []⟩ :: ⟨50, [], []⟩ :: ⟨51, [], []⟩ :: ⟨54, [], []⟩ :: ⟨52, [], []⟩ :: ⟨53, [], []⟩ :: ⟨55, [], []⟩ :: ⟨56, [], []⟩ :: ⟨57, [], []⟩ :: ⟨58, [], []⟩ :: ⟨59, [], []⟩ :: []))
.ret)))
theorem prep20 : prepFunc Try.prog 20 = some F20 := by kernel_rfl

-- indenture/light.Load
def F21 : AFunc where
  ntmps := 134
  nparams := 1
  results := [(2, none), (3, none)]
  code :=
(.seq
(.plain (
⟨(some 2), .mv (.const (.pointer none)), none⟩ ::
⟨(some 3), .mv (.const (.int .i64 0)), none⟩ ::
[]))
(.seq
(.plain (
⟨(some 7), .mv (.tmp 0), none⟩ ::
⟨(some 8), .callF 39 [(.tmp 7)], none⟩ ::
⟨(some 4), .mv (.tmp 8), none⟩ ::
[]))
(.seq
(.plain (
⟨(some 9), .mv (.tmp 4), none⟩ ::
⟨(some 10), .callF 40 [(.tmp 9)], none⟩ ::
⟨(some 11), .bld ([(.v (.int .i64 0))] ++ List.replicate 64 (.v (.int .u8 0)) ++ [(.v (.int .i64 0))] ++ [(.v (.pointer none))]) [(0, 65, (.tmp 10))], none⟩ ::
⟨(some 12), .box 64 (.tmp 11), none⟩ ::
⟨(some 5), .mv (.tmp 12), none⟩ ::
[]))
(.seq
(.plain (
⟨(some 13), .mv (.tmp 5), none⟩ ::
⟨(some 14), .mv (.tmp 4), none⟩ ::
⟨(some 15), .callF 41 [(.tmp 14)], none⟩ ::
⟨(some 16), .nilc (.tmp 13), none⟩ ::
⟨(some 17), .fa 65 (.tmp 16), none⟩ ::
⟨none, .store 1 (.tmp 17) (.tmp 15), none⟩ ::
[]))
(.seq
(.plain (
⟨(some 18), .mv (.tmp 5), none⟩ ::
⟨(some 19), .nilc (.tmp 18), none⟩ ::
⟨(some 20), .fa 0 (.tmp 19), none⟩ ::
⟨(some 21), .load true 65 (.tmp 20), none⟩ ::
⟨(some 22), .callF 27 [(.tmp 21)], none⟩ ::
⟨(some 23), .mv (.tmp 22), none⟩ ::
⟨(some 24), .mv (.tmp 5), (some (23, true))⟩ ::
⟨(some 25), .nilc (.tmp 24), (some (23, true))⟩ ::
⟨(some 26), .fa 65 (.tmp 25), (some (23, true))⟩ ::
⟨(some 27), .load false 1 (.tmp 26), (some (23, true))⟩ ::
⟨(some 28), .bin .geq (.tmp 27) (.const (.int .i64 0)), (some (23, true))⟩ ::
⟨(some 29), .pick (.tmp 23) (.tmp 28) (.const (.bool false)), none⟩ ::
⟨(some 30), .mv (.tmp 29), none⟩ ::
⟨(some 31), .mv (.tmp 5), (some (30, true))⟩ ::
⟨(some 32), .nilc (.tmp 31), (some (30, true))⟩ ::
⟨(some 33), .fa 65 (.tmp 32), (some (30, true))⟩ ::
⟨(some 34), .load false 1 (.tmp 33), (some (30, true))⟩ ::
⟨(some 35), .bin .leq (.tmp 34) (.const (.int .i64 1099511627776)), (some (30, true))⟩ ::
⟨(some 36), .pick (.tmp 30) (.tmp 35) (.const (.bool false)), none⟩ ::
⟨(some 6), .mv (.tmp 36), none⟩ ::
[]))
(.seq
(.seq
(.plain (
⟨(some 37), .mv (.tmp 4), none⟩ ::
⟨(some 38), .callF 42 [(.tmp 37)], none⟩ ::
[]))
(.cond (.tmp 38)
(.seq
(.plain (
⟨(some 39), .mv (.tmp 5), none⟩ ::
⟨(some 40), .bld ([(.v (.int .i64 0))] ++ List.replicate 64 (.v (.int .u8 0)) ++ [(.v (.int .i64 0))] ++ List.replicate 64 (.v (.int .u8 0))) [], none⟩ ::
⟨(some 41), .box 82 (.tmp 40), none⟩ ::
⟨(some 42), .nilc (.tmp 39), none⟩ ::
⟨(some 43), .fa 66 (.tmp 42), none⟩ ::
⟨none, .store 1 (.tmp 43) (.tmp 41), none⟩ ::
[]))
(.seq
(.draw (
⟨(some 44), .mv (.tmp 5), none⟩ ::
⟨(some 45), .nilc (.tmp 44), none⟩ ::
⟨(some 46), .fa 66 (.tmp 45), none⟩ ::
⟨(some 47), .load false 1 (.tmp 46), none⟩ ::
⟨(some 48), .mv (.tmp 4), none⟩ ::
⟨(some 49), .callF 40 [(.tmp 48)], none⟩ ::
⟨(some 50), .nilc (.tmp 47), none⟩ ::
⟨(some 51), .iaA 65 2 (.tmp 50) (.const (.int .i64 0)), none⟩ ::
⟨none, .store 65 (.tmp 51) (.tmp 49), none⟩ ::
[])
(⟨0, [], []⟩ :: ⟨1, [], []⟩ :: ⟨2, [], []⟩ :: ⟨3, [], []⟩ :: ⟨4, [], []⟩ :: ⟨6, [], []⟩ :: ⟨5, [], [3]⟩ :: ⟨7, [], []⟩ :: ⟨8, [], []⟩ :: []))
(.seq
(.draw (
⟨(some 52), .mv (.tmp 5), none⟩ ::
⟨(some 53), .nilc (.tmp 52), none⟩ ::
⟨(some 54), .fa 66 (.tmp 53), none⟩ ::
⟨(some 55), .load false 1 (.tmp 54), none⟩ ::
⟨(some 56), .mv (.tmp 4), none⟩ ::
⟨(some 57), .callF 40 [(.tmp 56)], none⟩ ::
⟨(some 58), .nilc (.tmp 55), none⟩ ::
⟨(some 59), .iaA 65 2 (.tmp 58) (.const (.int .i64 1)), none⟩ ::
⟨none, .store 65 (.tmp 59) (.tmp 57), none⟩ ::
[])
(⟨0, [], []⟩ :: ⟨1, [], []⟩ :: ⟨2, [], []⟩ :: ⟨3, [], []⟩ :: ⟨4, [], []⟩ :: ⟨6, [], []⟩ :: ⟨5, [], [3]⟩ :: ⟨7, [], []⟩ :: ⟨8, [], []⟩ :: []))
(.draw (
⟨(some 60), .mv (.tmp 6), none⟩ ::
⟨(some 61), .mv (.tmp 60), none⟩ ::
⟨(some 62), .mv (.tmp 5), (some (61, true))⟩ ::
⟨(some 63), .nilc (.tmp 62), (some (61, true))⟩ ::
⟨(some 64), .fa 66 (.tmp 63), (some (61, true))⟩ ::
⟨(some 65), .load false 1 (.tmp 64), (some (61, true))⟩ ::
⟨(some 66), .nilc (.tmp 65), (some (61, true))⟩ ::
⟨(some 67), .iaA 65 2 (.tmp 66) (.const (.int .i64 0)), (some (61, true))⟩ ::
⟨(some 68), .load true 65 (.tmp 67), (some (61, true))⟩ ::
⟨(some 69), .callF 27 [(.tmp 68)], (some (61, true))⟩ ::
⟨(some 70), .pick (.tmp 61) (.tmp 69) (.const (.bool false)), none⟩ ::
⟨(some 71), .mv (.tmp 70), none⟩ ::
⟨(some 72), .mv (.tmp 5), (some (71, true))⟩ ::
⟨(some 73), .nilc (.tmp 72), (some (71, true))⟩ ::
⟨(some 74), .fa 66 (.tmp 73), (some (71, true))⟩ ::
⟨(some 75), .load false 1 (.tmp 74), (some (71, true))⟩ ::
⟨(some 76), .nilc (.tmp 75), (some (71, true))⟩ ::
⟨(some 77), .iaA 65 2 (.tmp 76) (.const (.int .i64 1)), (some (71, true))⟩ ::
⟨(some 78), .load true 65 (.tmp 77), (some (71, true))⟩ ::
⟨(some 79), .callF 27 [(.tmp 78)], (some (71, true))⟩ ::
⟨(some 80), .pick (.tmp 71) (.tmp 79) (.const (.bool false)), none⟩ ::
⟨(some 81), .mv (.tmp 80), none⟩ ::
⟨(some 82), .mv (.tmp 5), (some (81, true))⟩ ::
⟨(some 83), .nilc (.tmp 82), (some (81, true))⟩ ::
⟨(some 84), .fa 66 (.tmp 83), (some (81, true))⟩ ::
⟨(some 85), .load false 1 (.tmp 84), (some (81, true))⟩ ::
⟨(some 86), .nilc (.tmp 85), (some (81, true))⟩ ::
⟨(some 87), .iaA 65 2 (.tmp 86) (.const (.int .i64 0)), (some (81, true))⟩ ::
⟨(some 88), .fa 0 (.tmp 87), (some (81, true))⟩ ::
⟨(some 89), .load false 1 (.tmp 88), (some (81, true))⟩ ::
⟨(some 90), .mv (.tmp 5), (some (81, true))⟩ ::
⟨(some 91), .nilc (.tmp 90), (some (81, true))⟩ ::
⟨(some 92), .fa 66 (.tmp 91), (some (81, true))⟩ ::
⟨(some 93), .load false 1 (.tmp 92), (some (81, true))⟩ ::
⟨(some 94), .nilc (.tmp 93), (some (81, true))⟩ ::
⟨(some 95), .iaA 65 2 (.tmp 94) (.const (.int .i64 1)), (some (81, true))⟩ ::
⟨(some 96), .fa 0 (.tmp 95), (some (81, true))⟩ ::
⟨(some 97), .load false 1 (.tmp 96), (some (81, true))⟩ ::
⟨(some 98), .bin .leq (.tmp 89) (.tmp 97), (some (81, true))⟩ ::
⟨(some 99), .pick (.tmp 81) (.tmp 98) (.const (.bool false)), none⟩ ::
⟨(some 100), .mv (.tmp 99), none⟩ ::
⟨(some 101), .mv (.tmp 5), (some (100, true))⟩ ::
⟨(some 102), .nilc (.tmp 101), (some (100, true))⟩ ::
⟨(some 103), .fa 66 (.tmp 102), (some (100, true))⟩ ::
⟨(some 104), .load false 1 (.tmp 103), (some (100, true))⟩ ::
⟨(some 105), .nilc (.tmp 104), (some (100, true))⟩ ::
⟨(some 106), .iaA 65 2 (.tmp 105) (.const (.int .i64 0)), (some (100, true))⟩ ::
⟨(some 107), .load true 65 (.tmp 106), (some (100, true))⟩ ::
⟨(some 108), .callF 26 [(.tmp 107)], (some (100, true))⟩ ::
⟨(some 109), .mv (.tmp 5), (some (100, true))⟩ ::
⟨(some 110), .nilc (.tmp 109), (some (100, true))⟩ ::
⟨(some 111), .fa 66 (.tmp 110), (some (100, true))⟩ ::
⟨(some 112), .load false 1 (.tmp 111), (some (100, true))⟩ ::
⟨(some 113), .nilc (.tmp 112), (some (100, true))⟩ ::
⟨(some 114), .iaA 65 2 (.tmp 113) (.const (.int .i64 1)), (some (100, true))⟩ ::
⟨(some 115), .load true 65 (.tmp 114), (some (100, true))⟩ ::
⟨(some 116), .callF 26 [(.tmp 115)], (some (100, true))⟩ ::
⟨(some 117), .eqv true [(32, .int .u8)] (.tmp 108) (.tmp 116), (some (100, true))⟩ ::
⟨(some 118), .pick (.tmp 100) (.tmp 117) (.const (.bool false)), none⟩ ::
⟨(some 6), .mv (.tmp 118), none⟩ ::
[])
(⟨0, [], []⟩ :: ⟨1, [], []⟩ :: ⟨2, [], []⟩ :: ⟨3, [], []⟩ :: ⟨4, [], []⟩ :: ⟨5, [], []⟩ :: ⟨6, [], []⟩ :: ⟨7, [], []⟩ :: ⟨8, [], []⟩ :: ⟨9, [], []⟩ :: ⟨10, [], []⟩ :: ⟨11, [], []⟩ :: ⟨12, [], []⟩ :: ⟨13, [], []⟩ :: ⟨14, [], []⟩ :: ⟨15, [], []⟩ :: ⟨16, [], []⟩ :: ⟨17, [], []⟩ :: ⟨18, [], []⟩ :: ⟨19, [], []⟩ :: ⟨20, [], []⟩ :: ⟨21, [], []⟩ :: ⟨22, [], []⟩ :: ⟨23, [], []⟩ :: ⟨24, [], []⟩ :: ⟨25, [], []⟩ :: ⟨26, [], []⟩ :: ⟨27, [], []⟩ :: ⟨28, [], []⟩ :: ⟨29, [], []⟩ :: ⟨30, [], []⟩ :: ⟨31, [], []⟩ :: ⟨32, [], []⟩ :: ⟨33, [], []⟩ :: ⟨34, [], []⟩ :: ⟨35, [], []⟩ :: ⟨36, [], []⟩ :: ⟨37, [], []⟩ :: ⟨38, [], []⟩ :: ⟨39, [], []⟩ :: ⟨40, [], []⟩ :: ⟨41, [], []⟩ :: ⟨42, [], []⟩ :: ⟨43, [], []⟩ :: ⟨44, [], []⟩ :: ⟨45, [], []⟩ :: ⟨46, [], []⟩ :: ⟨47, [], []⟩ :: ⟨49, [], []⟩ :: ⟨50, [], []⟩ :: ⟨51, [], []⟩ :: ⟨52, [], []⟩ :: ⟨53, [], []⟩ :: ⟨54, [], []⟩ :: ⟨55, [], []⟩ :: ⟨48, [], [52, 55]⟩ :: ⟨56, [], []⟩ :: ⟨57, [], []⟩ :: ⟨58, [], []⟩ :: ⟨59, [], []⟩ :: [])))))
.skip))
(.seq
(.seq
(.plain (
⟨(some 119), .mv (.tmp 4), none⟩ ::
⟨(some 120), .callF 43 [(.tmp 119)], none⟩ ::
⟨(some 121), .bin .neq (.tmp 120) (.const (.int .i64 0)), none⟩ ::
⟨(some 122), .mv (.tmp 121), none⟩ ::
⟨(some 123), .mv (.tmp 6), (some (122, false))⟩ ::
⟨(some 124), .un .not (.tmp 123), (some (122, false))⟩ ::
⟨(some 125), .pick (.tmp 122) (.const (.bool true)) (.tmp 124), none⟩ ::
⟨(some 126), .mv (.tmp 125), none⟩ ::
⟨(some 127), .mv (.tmp 5), (some (126, false))⟩ ::
⟨(some 128), .callF 22 [(.tmp 127)], (some (126, false))⟩ ::
⟨(some 129), .mv (.tmp 0), (some (126, false))⟩ ::
⟨(some 130), .callF 44 [(.tmp 128), (.tmp 129)], (some (126, false))⟩ ::
⟨(some 131), .un .not (.tmp 130), (some (126, false))⟩ ::
⟨(some 132), .pick (.tmp 126) (.const (.bool true)) (.tmp 131), none⟩ ::
[]))
(.cond (.tmp 132)
(.seq
(.plain (
⟨(some 2), .mv (.const (.pointer none)), none⟩ ::
⟨(some 3), .mv (.const (.int .i64 21)), none⟩ ::
[]))
.ret)
.skip))
(.seq
(.plain (
⟨(some 133), .mv (.tmp 5), none⟩ ::
⟨(some 2), .mv (.tmp 133), none⟩ ::
⟨(some 3), .mv (.const (.int .i64 0)), none⟩ ::
[]))
.ret))))))))
theorem prep21 : prepFunc Try.prog 21 = some F21 := by kernel_rfl

-- (*indenture/light.Follower).Save
def F22 : AFunc where
  ntmps := 50
  nparams := 1
  results := [(2, none)]
  code :=
(.seq
(.plain (
⟨(some 2), .mv (.const (.slice none 0 0)), none⟩ ::
[]))
(.seq
(.plain (
⟨(some 4), .bld [(.sl [] .nil), (.v (.int .i64 0))] [], none⟩ ::
⟨(some 5), .box 87 (.tmp 4), none⟩ ::
⟨(some 3), .mv (.tmp 5), none⟩ ::
[]))
(.seq
(.plain (
⟨(some 6), .mv (.tmp 3), none⟩ ::
⟨(some 7), .mv (.tmp 0), none⟩ ::
⟨(some 8), .nilc (.tmp 7), none⟩ ::
⟨(some 9), .fa 0 (.tmp 8), none⟩ ::
⟨(some 10), .load true 65 (.tmp 9), none⟩ ::
⟨(some 11), .callF 45 [(.tmp 6), (.tmp 10)], none⟩ ::
[]))
(.seq
(.plain (
⟨(some 12), .mv (.tmp 3), none⟩ ::
⟨(some 13), .mv (.tmp 0), none⟩ ::
⟨(some 14), .nilc (.tmp 13), none⟩ ::
⟨(some 15), .fa 65 (.tmp 14), none⟩ ::
⟨(some 16), .load false 1 (.tmp 15), none⟩ ::
⟨(some 17), .callF 46 [(.tmp 12), (.tmp 16)], none⟩ ::
[]))
(.seq
(.plain (
⟨(some 18), .mv (.tmp 3), none⟩ ::
⟨(some 19), .mv (.tmp 0), none⟩ ::
⟨(some 20), .nilc (.tmp 19), none⟩ ::
⟨(some 21), .fa 66 (.tmp 20), none⟩ ::
⟨(some 22), .load false 1 (.tmp 21), none⟩ ::
⟨(some 23), .eqp true (.tmp 22) (.const (.pointer none)), none⟩ ::
⟨(some 24), .callF 47 [(.tmp 18), (.tmp 23)], none⟩ ::
[]))
(.seq
(.seq
(.plain (
⟨(some 25), .mv (.tmp 0), none⟩ ::
⟨(some 26), .nilc (.tmp 25), none⟩ ::
⟨(some 27), .fa 66 (.tmp 26), none⟩ ::
⟨(some 28), .load false 1 (.tmp 27), none⟩ ::
⟨(some 29), .eqp true (.tmp 28) (.const (.pointer none)), none⟩ ::
[]))
(.cond (.tmp 29)
(.seq
(.plain (
⟨(some 30), .mv (.tmp 3), none⟩ ::
⟨(some 31), .mv (.tmp 0), none⟩ ::
⟨(some 32), .nilc (.tmp 31), none⟩ ::
⟨(some 33), .fa 66 (.tmp 32), none⟩ ::
⟨(some 34), .load false 1 (.tmp 33), none⟩ ::
⟨(some 35), .nilc (.tmp 34), none⟩ ::
⟨(some 36), .iaA 65 2 (.tmp 35) (.const (.int .i64 0)), none⟩ ::
⟨(some 37), .load true 65 (.tmp 36), none⟩ ::
⟨(some 38), .callF 45 [(.tmp 30), (.tmp 37)], none⟩ ::
[]))
(.plain (
⟨(some 39), .mv (.tmp 3), none⟩ ::
⟨(some 40), .mv (.tmp 0), none⟩ ::
⟨(some 41), .nilc (.tmp 40), none⟩ ::
⟨(some 42), .fa 66 (.tmp 41), none⟩ ::
⟨(some 43), .load false 1 (.tmp 42), none⟩ ::
⟨(some 44), .nilc (.tmp 43), none⟩ ::
⟨(some 45), .iaA 65 2 (.tmp 44) (.const (.int .i64 1)), none⟩ ::
⟨(some 46), .load true 65 (.tmp 45), none⟩ ::
⟨(some 47), .callF 45 [(.tmp 39), (.tmp 46)], none⟩ ::
[])))
.skip))
(.seq
(.plain (
⟨(some 48), .mv (.tmp 3), none⟩ ::
⟨(some 49), .callF 48 [(.tmp 48)], none⟩ ::
⟨(some 2), .mv (.tmp 49), none⟩ ::
[]))
.ret)))))))
theorem prep22 : prepFunc Try.prog 22 = some F22 := by kernel_rfl

-- (*indenture/indentureref34.Follower).Bytes
def F23 : AFunc where
  ntmps := 41
  nparams := 1
  results := [(2, none)]
  code :=
(.seq
(.plain (
⟨(some 2), .mv (.const (.slice none 0 0)), none⟩ ::
[]))
(.seq
(.draw (
⟨(some 4), .mv (.tmp 0), none⟩ ::
⟨(some 5), .nilc (.tmp 4), none⟩ ::
⟨(some 6), .fa 0 (.tmp 5), none⟩ ::
⟨(some 7), .load true 65 (.tmp 6), none⟩ ::
⟨(some 8), .callF 49 [(.tmp 7)], none⟩ ::
⟨(some 9), .mv (.tmp 0), none⟩ ::
⟨(some 10), .nilc (.tmp 9), none⟩ ::
⟨(some 11), .fa 65 (.tmp 10), none⟩ ::
⟨(some 12), .load false 1 (.tmp 11), none⟩ ::
⟨(some 13), .callF 50 [(.tmp 12)], none⟩ ::
⟨(some 14), .app 1 1 (.tmp 8) (.tmp 13), none⟩ ::
⟨(some 3), .mv (.tmp 14), none⟩ ::
[])
(⟨0, [], []⟩ :: ⟨1, [], []⟩ :: ⟨2, [], []⟩ :: ⟨3, [], []⟩ :: ⟨5, [], []⟩ :: ⟨6, [], []⟩ :: ⟨7, [], []⟩ :: ⟨8, [], []⟩ :: ⟨4, [], [8]⟩ :: ⟨9, [], []⟩ :: ⟨10, [], []⟩ :: ⟨11, [], []⟩ :: []))
(.seq
(.plain (
⟨(some 15), .mv (.tmp 3), none⟩ ::
⟨(some 16), .mv (.tmp 0), none⟩ ::
⟨(some 17), .nilc (.tmp 16), none⟩ ::
⟨(some 18), .fa 66 (.tmp 17), none⟩ ::
⟨(some 19), .load false 1 (.tmp 18), none⟩ ::
⟨(some 20), .callF 51 [(.tmp 19)], none⟩ ::
⟨(some 21), .app 1 1 (.tmp 15) (.tmp 20), none⟩ ::
⟨(some 3), .mv (.tmp 21), none⟩ ::
[]))
(.seq
(.seq
(.plain (
⟨(some 22), .mv (.tmp 0), none⟩ ::
⟨(some 23), .nilc (.tmp 22), none⟩ ::
⟨(some 24), .fa 66 (.tmp 23), none⟩ ::
⟨(some 25), .load false 1 (.tmp 24), none⟩ ::
[]))
(.cond (.tmp 25)
(.seq
(.plain (
⟨(some 26), .mv (.tmp 3), none⟩ ::
⟨(some 27), .mv (.tmp 0), none⟩ ::
⟨(some 28), .nilc (.tmp 27), none⟩ ::
⟨(some 29), .fa 67 (.tmp 28), none⟩ ::
⟨(some 30), .load true 65 (.tmp 29), none⟩ ::
⟨(some 31), .callF 49 [(.tmp 30)], none⟩ ::
⟨(some 32), .app 1 1 (.tmp 26) (.tmp 31), none⟩ ::
⟨(some 3), .mv (.tmp 32), none⟩ ::
[]))
(.plain (
⟨(some 33), .mv (.tmp 3), none⟩ ::
⟨(some 34), .mv (.tmp 0), none⟩ ::
⟨(some 35), .nilc (.tmp 34), none⟩ ::
⟨(some 36), .fa 132 (.tmp 35), none⟩ ::
⟨(some 37), .load true 65 (.tmp 36), none⟩ ::
⟨(some 38), .callF 49 [(.tmp 37)], none⟩ ::
⟨(some 39), .app 1 1 (.tmp 33) (.tmp 38), none⟩ ::
⟨(some 3), .mv (.tmp 39), none⟩ ::
[])))
.skip))
(.seq
(.plain (
⟨(some 40), .mv (.tmp 3), none⟩ ::
⟨(some 2), .mv (.tmp 40), none⟩ ::
[]))
.ret)))))
theorem prep23 : prepFunc Try.prog 23 = some F23 := by kernel_rfl

-- (*indenture/light.Follower).Fork
def F24 : AFunc where
  ntmps := 26
  nparams := 1
  results := [(2, (some (true, 65))), (3, (some (true, 65))), (4, none)]
  code :=
(.seq
(.plain (
⟨(some 2), .alloc 26 ([(.v (.int .i64 0))] ++ List.replicate 64 (.v (.int .u8 0))), none⟩ ::
⟨(some 3), .alloc 26 ([(.v (.int .i64 0))] ++ List.replicate 64 (.v (.int .u8 0))), none⟩ ::
⟨(some 4), .mv (.const (.bool false)), none⟩ ::
[]))
(.seq
(.seq
(.plain (
⟨(some 5), .mv (.tmp 0), none⟩ ::
⟨(some 6), .nilc (.tmp 5), none⟩ ::
⟨(some 7), .fa 66 (.tmp 6), none⟩ ::
⟨(some 8), .load false 1 (.tmp 7), none⟩ ::
⟨(some 9), .eqp false (.tmp 8) (.const (.pointer none)), none⟩ ::
[]))
(.cond (.tmp 9)
(.seq
(.plain (
⟨(some 10), .bld ([(.v (.int .i64 0))] ++ List.replicate 64 (.v (.int .u8 0))) [], none⟩ ::
⟨(some 11), .bld ([(.v (.int .i64 0))] ++ List.replicate 64 (.v (.int .u8 0))) [], none⟩ ::
⟨none, .store 65 (.tmp 2) (.tmp 10), none⟩ ::
⟨none, .store 65 (.tmp 3) (.tmp 11), none⟩ ::
⟨(some 4), .mv (.const (.bool false)), none⟩ ::
[]))
.ret)
.skip))
(.seq
(.draw (
⟨(some 12), .mv (.tmp 0), none⟩ ::
⟨(some 13), .nilc (.tmp 12), none⟩ ::
⟨(some 14), .fa 66 (.tmp 13), none⟩ ::
⟨(some 15), .load false 1 (.tmp 14), none⟩ ::
⟨(some 16), .nilc (.tmp 15), none⟩ ::
⟨(some 17), .iaA 65 2 (.tmp 16) (.const (.int .i64 0)), none⟩ ::
⟨(some 18), .load true 65 (.tmp 17), none⟩ ::
⟨(some 19), .mv (.tmp 0), none⟩ ::
⟨(some 20), .nilc (.tmp 19), none⟩ ::
⟨(some 21), .fa 66 (.tmp 20), none⟩ ::
⟨(some 22), .load false 1 (.tmp 21), none⟩ ::
⟨(some 23), .nilc (.tmp 22), none⟩ ::
⟨(some 24), .iaA 65 2 (.tmp 23) (.const (.int .i64 1)), none⟩ ::
⟨(some 25), .load true 65 (.tmp 24), none⟩ ::
⟨none, .store 65 (.tmp 2) (.tmp 18), none⟩ ::
⟨none, .store 65 (.tmp 3) (.tmp 25), none⟩ ::
⟨(some 4), .mv (.const (.bool true)), none⟩ ::
[])
(⟨0, [], []⟩ :: ⟨1, [], []⟩ :: ⟨2, [], []⟩ :: ⟨3, [], []⟩ :: ⟨4, [], []⟩ :: ⟨5, [], []⟩ :: ⟨6, [], []⟩ :: ⟨7, [], []⟩ :: ⟨8, [], []⟩ :: ⟨9, [], []⟩ :: ⟨10, [], []⟩ :: ⟨11, [], []⟩ :: ⟨12, [], []⟩ :: ⟨13, [], []⟩ :: ⟨14, [], [10, 13]⟩ :: ⟨15, [], []⟩ :: ⟨16, [], []⟩ :: []))
.ret)))
theorem prep24 : prepFunc Try.prog 24 = some F24 := by kernel_rfl

-- indenture/history.Root
def F25 : AFunc where
  ntmps := 30
  nparams := 1
  results := [(2, (some (true, 32)))]
  code :=
(.seq
(.plain (
⟨(some 2), .alloc 24 (List.replicate 32 (.v (.int .u8 0))), none⟩ ::
[]))
(.seq
(.plain (
⟨(some 5), .mv (.tmp 0), none⟩ ::
⟨(some 6), .len (.tmp 5), none⟩ ::
⟨(some 3), .mv (.tmp 6), none⟩ ::
[]))
(.seq
(.plain (
⟨(some 7), .mv (.tmp 3), none⟩ ::
[]))
(.block 0
(.seq
(.plain (
⟨(some 21), .bin .eql (.tmp 7) (.const (.int .i64 0)), none⟩ ::
⟨(some 20), .mv (.tmp 21), none⟩ ::
[]))
(.cond (.tmp 20)
(.seq
(.plain (
⟨(some 22), .callF 52 [(.const (.int .u8 72)), (.const (.slice none 0 0))], none⟩ ::
⟨none, .store 32 (.tmp 2) (.tmp 22), none⟩ ::
[]))
.ret)
(.seq
(.plain (
⟨(some 24), .bin .eql (.tmp 7) (.const (.int .i64 1)), none⟩ ::
⟨(some 23), .mv (.tmp 24), none⟩ ::
[]))
(.cond (.tmp 23)
(.seq
(.plain (
⟨(some 25), .mv (.tmp 0), none⟩ ::
⟨(some 26), .iaS 32 (.tmp 25) (.const (.int .i64 0)), none⟩ ::
⟨(some 27), .load true 32 (.tmp 26), none⟩ ::
⟨(some 28), .callF 53 [(.tmp 27)], none⟩ ::
⟨(some 29), .callF 34 [(.tmp 28)], none⟩ ::
⟨none, .store 32 (.tmp 2) (.tmp 29), none⟩ ::
[]))
.ret)
(.seq
(.plain (
⟨(some 8), .mv (.tmp 3), none⟩ ::
⟨(some 9), .callF 54 [(.tmp 8)], none⟩ ::
⟨(some 4), .mv (.tmp 9), none⟩ ::
[]))
(.seq
(.draw (
⟨(some 10), .mv (.tmp 0), none⟩ ::
⟨(some 11), .mv (.tmp 4), none⟩ ::
⟨(some 12), .slc 32 (.tmp 10) none (some (.tmp 11)), none⟩ ::
⟨(some 13), .callF 25 [(.tmp 12)], none⟩ ::
⟨(some 14), .mv (.tmp 0), none⟩ ::
⟨(some 15), .mv (.tmp 4), none⟩ ::
⟨(some 16), .slc 32 (.tmp 14) (some (.tmp 15)) none, none⟩ ::
⟨(some 17), .callF 25 [(.tmp 16)], none⟩ ::
⟨(some 18), .callF 55 [(.tmp 13), (.tmp 17)], none⟩ ::
⟨(some 19), .callF 34 [(.tmp 18)], none⟩ ::
⟨none, .store 32 (.tmp 2) (.tmp 19), none⟩ ::
[])
(⟨0, [], []⟩ :: ⟨1, [], []⟩ :: ⟨2, [], []⟩ :: ⟨4, [], []⟩ :: ⟨5, [], []⟩ :: ⟨6, [], []⟩ :: ⟨3, [], []⟩ :: ⟨7, [], []⟩ :: ⟨8, [], []⟩ :: ⟨9, [], []⟩ :: ⟨10, [], []⟩ :: []))
.ret))))))))))
theorem prep25 : prepFunc Try.prog 25 = some F25 := by kernel_rfl

-- indenture/block.Digest
def F26 : AFunc where
  ntmps := 6
  nparams := 1
  results := [(2, (some (true, 32)))]
  code :=
(.seq
(.plain (
⟨(some 1), .box 26 (.tmp 0), none⟩ ::
⟨(some 2), .alloc 24 (List.replicate 32 (.v (.int .u8 0))), none⟩ ::
[]))
(.seq
(.plain (
⟨(some 3), .load true 65 (.tmp 1), none⟩ ::
⟨(some 4), .callF 56 [(.tmp 3)], none⟩ ::
⟨(some 5), .callF 34 [(.tmp 4)], none⟩ ::
⟨none, .store 32 (.tmp 2) (.tmp 5), none⟩ ::
[]))
.ret))
theorem prep26 : prepFunc Try.prog 26 = some F26 := by kernel_rfl

-- indenture/light.right
def F27 : AFunc where
  ntmps := 11
  nparams := 1
  results := [(2, none)]
  code :=
(.seq
(.plain (
⟨(some 1), .box 26 (.tmp 0), none⟩ ::
⟨(some 2), .mv (.const (.bool false)), none⟩ ::
[]))
(.seq
(.plain (
⟨(some 3), .fa 0 (.tmp 1), none⟩ ::
⟨(some 4), .load false 1 (.tmp 3), none⟩ ::
⟨(some 5), .bin .geq (.tmp 4) (.const (.int .i64 0)), none⟩ ::
⟨(some 6), .mv (.tmp 5), none⟩ ::
⟨(some 7), .fa 0 (.tmp 1), (some (6, true))⟩ ::
⟨(some 8), .load false 1 (.tmp 7), (some (6, true))⟩ ::
⟨(some 9), .bin .leq (.tmp 8) (.const (.int .i64 1099511627776)), (some (6, true))⟩ ::
⟨(some 10), .pick (.tmp 6) (.tmp 9) (.const (.bool false)), none⟩ ::
⟨(some 2), .mv (.tmp 10), none⟩ ::
[]))
.ret))
theorem prep27 : prepFunc Try.prog 27 = some F27 := by kernel_rfl

-- (*indenture/light.Follower).Digest
def F28 : AFunc where
  ntmps := 8
  nparams := 1
  results := [(2, (some (true, 32)))]
  code :=
(.seq
(.plain (
⟨(some 2), .alloc 24 (List.replicate 32 (.v (.int .u8 0))), none⟩ ::
[]))
(.seq
(.plain (
⟨(some 3), .mv (.tmp 0), none⟩ ::
⟨(some 4), .nilc (.tmp 3), none⟩ ::
⟨(some 5), .fa 0 (.tmp 4), none⟩ ::
⟨(some 6), .load true 65 (.tmp 5), none⟩ ::
⟨(some 7), .callF 26 [(.tmp 6)], none⟩ ::
⟨none, .store 32 (.tmp 2) (.tmp 7), none⟩ ::
[]))
.ret))
theorem prep28 : prepFunc Try.prog 28 = some F28 := by kernel_rfl

-- (*indenture/light.Follower).keep
def F29 : AFunc where
  ntmps := 19
  nparams := 2
  results := []
  code :=
(.seq
(.plain (
⟨(some 3), .box 26 (.tmp 1), none⟩ ::
[]))
(.seq
(.plain (
⟨(some 4), .mv (.tmp 0), none⟩ ::
⟨(some 5), .nilc (.tmp 4), none⟩ ::
⟨(some 6), .fa 66 (.tmp 5), none⟩ ::
⟨(some 7), .load false 1 (.tmp 6), none⟩ ::
⟨(some 8), .eqp false (.tmp 7) (.const (.pointer none)), none⟩ ::
[]))
(.cond (.tmp 8)
(.draw (
⟨(some 9), .mv (.tmp 0), none⟩ ::
⟨(some 10), .load true 65 (.tmp 3), none⟩ ::
⟨(some 11), .mv (.tmp 0), none⟩ ::
⟨(some 12), .nilc (.tmp 11), none⟩ ::
⟨(some 13), .fa 0 (.tmp 12), none⟩ ::
⟨(some 14), .load true 65 (.tmp 13), none⟩ ::
⟨(some 15), .bld ([(.v (.int .i64 0))] ++ List.replicate 64 (.v (.int .u8 0)) ++ [(.v (.int .i64 0))] ++ List.replicate 64 (.v (.int .u8 0))) [(0, 65, (.tmp 10)), (65, 65, (.tmp 14))], none⟩ ::
⟨(some 16), .box 82 (.tmp 15), none⟩ ::
⟨(some 17), .nilc (.tmp 9), none⟩ ::
⟨(some 18), .fa 66 (.tmp 17), none⟩ ::
⟨none, .store 1 (.tmp 18) (.tmp 16), none⟩ ::
[])
(⟨0, [], []⟩ :: ⟨1, [], []⟩ :: ⟨2, [], []⟩ :: ⟨3, [], []⟩ :: ⟨4, [], []⟩ :: ⟨5, [], []⟩ :: ⟨6, [], []⟩ :: ⟨7, [], []⟩ :: ⟨8, [], []⟩ :: ⟨9, [], []⟩ :: ⟨10, [], []⟩ :: []))
.skip)))
theorem prep29 : prepFunc Try.prog 29 = some F29 := by kernel_rfl

-- indenture/history.Grows
def F30 : AFunc where
  ntmps := 60
  nparams := 5
  results := [(10, none)]
  code :=
(.seq
(.plain (
⟨(some 5), .box 24 (.tmp 0), none⟩ ::
⟨(some 7), .box 24 (.tmp 2), none⟩ ::
⟨(some 10), .mv (.const (.bool false)), none⟩ ::
[]))
(.seq
(.block 0
(.seq
(.plain (
⟨(some 15), .mv (.tmp 1), none⟩ ::
⟨(some 16), .bin .lss (.tmp 15) (.const (.int .i64 0)), none⟩ ::
⟨(some 17), .mv (.tmp 16), none⟩ ::
⟨(some 18), .mv (.tmp 1), (some (17, false))⟩ ::
⟨(some 19), .mv (.tmp 3), (some (17, false))⟩ ::
⟨(some 20), .bin .gtr (.tmp 18) (.tmp 19), (some (17, false))⟩ ::
⟨(some 21), .pick (.tmp 17) (.const (.bool true)) (.tmp 20), none⟩ ::
⟨(some 22), .mv (.tmp 21), none⟩ ::
⟨(some 23), .mv (.tmp 3), (some (22, false))⟩ ::
⟨(some 24), .bin .gtr (.tmp 23) (.const (.int .i64 1099511627776)), (some (22, false))⟩ ::
⟨(some 25), .pick (.tmp 22) (.const (.bool true)) (.tmp 24), none⟩ ::
⟨(some 14), .mv (.tmp 25), none⟩ ::
[]))
(.cond (.tmp 14)
(.seq
(.plain (
⟨(some 10), .mv (.const (.bool false)), none⟩ ::
[]))
.ret)
(.seq
(.plain (
⟨(some 27), .mv (.tmp 1), none⟩ ::
⟨(some 28), .bin .eql (.tmp 27) (.const (.int .i64 0)), none⟩ ::
⟨(some 26), .mv (.tmp 28), none⟩ ::
[]))
(.cond (.tmp 26)
(.seq
(.draw (
⟨(some 29), .load true 32 (.tmp 5), none⟩ ::
⟨(some 30), .callF 52 [(.const (.int .u8 72)), (.const (.slice none 0 0))], none⟩ ::
⟨(some 31), .eqv false [(32, .int .u8)] (.tmp 29) (.tmp 30), none⟩ ::
⟨(some 32), .mv (.tmp 31), none⟩ ::
⟨(some 33), .mv (.tmp 4), (some (32, true))⟩ ::
⟨(some 34), .len (.tmp 33), (some (32, true))⟩ ::
⟨(some 35), .bin .eql (.tmp 34) (.const (.int .i64 0)), (some (32, true))⟩ ::
⟨(some 36), .pick (.tmp 32) (.tmp 35) (.const (.bool false)), none⟩ ::
⟨(some 10), .mv (.tmp 36), none⟩ ::
[])
(⟨0, [], []⟩ :: ⟨1, [], [0]⟩ :: ⟨2, [], []⟩ :: ⟨3, [], []⟩ :: ⟨4, [], []⟩ :: ⟨5, [], []⟩ :: ⟨6, [], []⟩ :: ⟨7, [], []⟩ :: ⟨8, [], []⟩ :: []))
.ret)
.skip)))))
(.seq
(.plain (
⟨(some 37), .mv (.tmp 4), none⟩ ::
⟨(some 38), .bld [(.sl [] .nil), (.sl [] .nil), (.v (.bool false))] [(0, 1, (.tmp 37))], none⟩ ::
⟨(some 39), .box 73 (.tmp 38), none⟩ ::
⟨(some 11), .mv (.tmp 39), none⟩ ::
[]))
(.seq
(.plain (
⟨(some 41), .mv (.tmp 11), none⟩ ::
⟨(some 42), .load true 32 (.tmp 5), none⟩ ::
⟨(some 43), .mv (.tmp 1), none⟩ ::
⟨(some 44), .mv (.tmp 3), none⟩ ::
⟨(some 45), .callF 35 [(.tmp 41), (.tmp 42), (.tmp 43), (.tmp 44), (.const (.bool true))], none⟩ ::
⟨(some 40), .mv (.tmp 45), none⟩ ::
⟨(some 46), .ext (.tmp 40) 0, none⟩ ::
⟨(some 47), .ext (.tmp 40) 1, none⟩ ::
⟨(some 12), .alloc 24 (List.replicate 32 (.v (.int .u8 0))), none⟩ ::
⟨(some 13), .alloc 24 (List.replicate 32 (.v (.int .u8 0))), none⟩ ::
⟨none, .store 32 (.tmp 12) (.tmp 46), none⟩ ::
⟨none, .store 32 (.tmp 13) (.tmp 47), none⟩ ::
[]))
(.seq
(.plain (
⟨(some 48), .mv (.tmp 11), none⟩ ::
⟨(some 49), .callF 32 [(.tmp 48)], none⟩ ::
⟨(some 50), .mv (.tmp 49), none⟩ ::
⟨(some 51), .load true 32 (.tmp 12), (some (50, true))⟩ ::
⟨(some 52), .load true 32 (.tmp 5), (some (50, true))⟩ ::
⟨(some 53), .eqv false [(32, .int .u8)] (.tmp 51) (.tmp 52), (some (50, true))⟩ ::
⟨(some 54), .pick (.tmp 50) (.tmp 53) (.const (.bool false)), none⟩ ::
⟨(some 55), .mv (.tmp 54), none⟩ ::
⟨(some 56), .load true 32 (.tmp 13), (some (55, true))⟩ ::
⟨(some 57), .load true 32 (.tmp 7), (some (55, true))⟩ ::
⟨(some 58), .eqv false [(32, .int .u8)] (.tmp 56) (.tmp 57), (some (55, true))⟩ ::
⟨(some 59), .pick (.tmp 55) (.tmp 58) (.const (.bool false)), none⟩ ::
⟨(some 10), .mv (.tmp 59), none⟩ ::
[]))
.ret)))))
theorem prep30 : prepFunc Try.prog 30 = some F30 := by kernel_rfl

-- indenture/history.inPath
def F31 : AFunc where
  ntmps := 36
  nparams := 4
  results := [(8, none), (9, (some (true, 32)))]
  code :=
(.seq
(.plain (
⟨(some 6), .box 24 (.tmp 2), none⟩ ::
⟨(some 8), .mv (.const (.pointer none)), none⟩ ::
⟨(some 9), .alloc 24 (List.replicate 32 (.v (.int .u8 0))), none⟩ ::
[]))
(.seq
(.seq
(.plain (
⟨(some 11), .mv (.tmp 0), none⟩ ::
⟨(some 12), .bin .lss (.tmp 11) (.const (.int .i64 1)), none⟩ ::
⟨(some 13), .mv (.tmp 12), none⟩ ::
⟨(some 14), .mv (.tmp 0), (some (13, false))⟩ ::
⟨(some 15), .bin .gtr (.tmp 14) (.const (.int .i64 1099511627776)), (some (13, false))⟩ ::
⟨(some 16), .pick (.tmp 13) (.const (.bool true)) (.tmp 15), none⟩ ::
⟨(some 17), .mv (.tmp 16), none⟩ ::
⟨(some 18), .mv (.tmp 1), (some (17, false))⟩ ::
⟨(some 19), .bin .lss (.tmp 18) (.const (.int .i64 0)), (some (17, false))⟩ ::
⟨(some 20), .pick (.tmp 17) (.const (.bool true)) (.tmp 19), none⟩ ::
⟨(some 21), .mv (.tmp 20), none⟩ ::
⟨(some 22), .mv (.tmp 1), (some (21, false))⟩ ::
⟨(some 23), .mv (.tmp 0), (some (21, false))⟩ ::
⟨(some 24), .bin .geq (.tmp 22) (.tmp 23), (some (21, false))⟩ ::
⟨(some 25), .pick (.tmp 21) (.const (.bool true)) (.tmp 24), none⟩ ::
[]))
(.cond (.tmp 25)
(.seq
(.plain (
⟨(some 26), .bld (List.replicate 32 (.v (.int .u8 0))) [], none⟩ ::
⟨(some 8), .mv (.const (.pointer none)), none⟩ ::
⟨none, .store 32 (.tmp 9) (.tmp 26), none⟩ ::
[]))
.ret)
.skip))
(.seq
(.plain (
⟨(some 27), .mv (.tmp 3), none⟩ ::
⟨(some 28), .bld [(.sl [] .nil), (.sl [] .nil), (.v (.bool false))] [(0, 1, (.tmp 27))], none⟩ ::
⟨(some 29), .box 73 (.tmp 28), none⟩ ::
⟨(some 10), .mv (.tmp 29), none⟩ ::
[]))
(.seq
(.plain (
⟨(some 30), .mv (.tmp 10), none⟩ ::
⟨(some 31), .mv (.tmp 10), none⟩ ::
⟨(some 32), .mv (.tmp 0), none⟩ ::
⟨(some 33), .mv (.tmp 1), none⟩ ::
⟨(some 34), .load true 32 (.tmp 6), none⟩ ::
⟨(some 35), .callF 57 [(.tmp 31), (.tmp 32), (.tmp 33), (.tmp 34)], none⟩ ::
⟨(some 8), .mv (.tmp 30), none⟩ ::
⟨none, .store 32 (.tmp 9) (.tmp 35), none⟩ ::
[]))
.ret))))
theorem prep31 : prepFunc Try.prog 31 = some F31 := by kernel_rfl

-- (*indenture/history.proof).good
def F32 : AFunc where
  ntmps := 16
  nparams := 1
  results := [(2, none)]
  code :=
(.seq
(.plain (
⟨(some 2), .mv (.const (.bool false)), none⟩ ::
[]))
(.seq
(.plain (
⟨(some 3), .mv (.tmp 0), none⟩ ::
⟨(some 4), .nilc (.tmp 3), none⟩ ::
⟨(some 5), .fa 2 (.tmp 4), none⟩ ::
⟨(some 6), .load false 1 (.tmp 5), none⟩ ::
⟨(some 7), .un .not (.tmp 6), none⟩ ::
⟨(some 8), .mv (.tmp 7), none⟩ ::
⟨(some 9), .mv (.tmp 0), (some (8, true))⟩ ::
⟨(some 10), .nilc (.tmp 9), (some (8, true))⟩ ::
⟨(some 11), .fa 0 (.tmp 10), (some (8, true))⟩ ::
⟨(some 12), .load false 1 (.tmp 11), (some (8, true))⟩ ::
⟨(some 13), .len (.tmp 12), (some (8, true))⟩ ::
⟨(some 14), .bin .eql (.tmp 13) (.const (.int .i64 0)), (some (8, true))⟩ ::
⟨(some 15), .pick (.tmp 8) (.tmp 14) (.const (.bool false)), none⟩ ::
⟨(some 2), .mv (.tmp 15), none⟩ ::
[]))
.ret))
theorem prep32 : prepFunc Try.prog 32 = some F32 := by kernel_rfl

-- indenture/history.path
def F33 : AFunc where
  ntmps := 39
  nparams := 2
  results := [(4, none)]
  code :=
(.seq
(.plain (
⟨(some 4), .mv (.const (.slice none 0 0)), none⟩ ::
[]))
(.seq
(.seq
(.plain (
⟨(some 6), .mv (.tmp 0), none⟩ ::
⟨(some 7), .len (.tmp 6), none⟩ ::
⟨(some 8), .bin .eql (.tmp 7) (.const (.int .i64 1)), none⟩ ::
[]))
(.cond (.tmp 8)
(.seq
(.plain (
⟨(some 4), .mv (.const (.slice none 0 0)), none⟩ ::
[]))
.ret)
.skip))
(.seq
(.plain (
⟨(some 9), .mv (.tmp 0), none⟩ ::
⟨(some 10), .len (.tmp 9), none⟩ ::
⟨(some 11), .callF 54 [(.tmp 10)], none⟩ ::
⟨(some 5), .mv (.tmp 11), none⟩ ::
[]))
(.seq
(.seq
(.plain (
⟨(some 12), .mv (.tmp 1), none⟩ ::
⟨(some 13), .mv (.tmp 5), none⟩ ::
⟨(some 14), .bin .lss (.tmp 12) (.tmp 13), none⟩ ::
[]))
(.cond (.tmp 14)
(.seq
(.draw (
⟨(some 15), .mv (.tmp 0), none⟩ ::
⟨(some 16), .mv (.tmp 5), none⟩ ::
⟨(some 17), .slc 32 (.tmp 15) none (some (.tmp 16)), none⟩ ::
⟨(some 18), .mv (.tmp 1), none⟩ ::
⟨(some 19), .callF 33 [(.tmp 17), (.tmp 18)], none⟩ ::
⟨(some 20), .mv (.tmp 0), none⟩ ::
⟨(some 21), .mv (.tmp 5), none⟩ ::
⟨(some 22), .slc 32 (.tmp 20) (some (.tmp 21)) none, none⟩ ::
⟨(some 23), .callF 25 [(.tmp 22)], none⟩ ::
⟨(some 24), .bsl 32 [(.tmp 23)], none⟩ ::
⟨(some 25), .app 32 32 (.tmp 19) (.tmp 24), none⟩ ::
⟨(some 4), .mv (.tmp 25), none⟩ ::
[])
(⟨0, [], []⟩ :: ⟨1, [], []⟩ :: ⟨2, [], []⟩ :: ⟨3, [], []⟩ :: ⟨5, [], []⟩ :: ⟨6, [], []⟩ :: ⟨7, [], []⟩ :: ⟨4, [], []⟩ :: ⟨8, [], []⟩ :: ⟨9, [], []⟩ :: ⟨10, [], []⟩ :: ⟨11, [], []⟩ :: []))
.ret)
.skip))
(.seq
(.draw (
⟨(some 26), .mv (.tmp 0), none⟩ ::
⟨(some 27), .mv (.tmp 5), none⟩ ::
⟨(some 28), .slc 32 (.tmp 26) (some (.tmp 27)) none, none⟩ ::
⟨(some 29), .mv (.tmp 1), none⟩ ::
⟨(some 30), .mv (.tmp 5), none⟩ ::
⟨(some 31), .bin .sub (.tmp 29) (.tmp 30), none⟩ ::
⟨(some 32), .callF 33 [(.tmp 28), (.tmp 31)], none⟩ ::
⟨(some 33), .mv (.tmp 0), none⟩ ::
⟨(some 34), .mv (.tmp 5), none⟩ ::
⟨(some 35), .slc 32 (.tmp 33) none (some (.tmp 34)), none⟩ ::
⟨(some 36), .callF 25 [(.tmp 35)], none⟩ ::
⟨(some 37), .bsl 32 [(.tmp 36)], none⟩ ::
⟨(some 38), .app 32 32 (.tmp 32) (.tmp 37), none⟩ ::
⟨(some 4), .mv (.tmp 38), none⟩ ::
[])
(⟨0, [], []⟩ :: ⟨1, [], []⟩ :: ⟨2, [], []⟩ :: ⟨3, [], []⟩ :: ⟨4, [], []⟩ :: ⟨5, [], []⟩ :: ⟨7, [], []⟩ :: ⟨8, [], []⟩ :: ⟨9, [], []⟩ :: ⟨6, [], []⟩ :: ⟨10, [], []⟩ :: ⟨11, [], []⟩ :: ⟨12, [], []⟩ :: ⟨13, [], []⟩ :: []))
.ret)))))
theorem prep33 : prepFunc Try.prog 33 = some F33 := by kernel_rfl

-- indenture/sha.Sum
def F34 : AFunc where
  ntmps := 10
  nparams := 1
  results := [(2, (some (true, 32)))]
  code :=
(.seq
(.plain (
⟨(some 2), .alloc 24 (List.replicate 32 (.v (.int .u8 0))), none⟩ ::
[]))
(.seq
(.plain (
⟨(some 4), .callF 58 [], none⟩ ::
⟨(some 3), .mv (.tmp 4), none⟩ ::
[]))
(.seq
(.plain (
⟨(some 5), .mv (.tmp 3), none⟩ ::
⟨(some 6), .mv (.tmp 0), none⟩ ::
⟨(some 7), .callF 59 [(.tmp 5), (.tmp 6)], none⟩ ::
[]))
(.seq
(.plain (
⟨(some 8), .mv (.tmp 3), none⟩ ::
⟨(some 9), .callF 60 [(.tmp 8)], none⟩ ::
⟨none, .store 32 (.tmp 2) (.tmp 9), none⟩ ::
[]))
.ret))))
theorem prep34 : prepFunc Try.prog 34 = some F34 := by kernel_rfl

-- (*indenture/history.proof).both
def F35 : AFunc where
  ntmps := 81
  nparams := 5
  results := [(10, (some (true, 32))), (11, (some (true, 32)))]
  code :=
(.seq
(.plain (
⟨(some 6), .box 24 (.tmp 1), none⟩ ::
⟨(some 10), .alloc 24 (List.replicate 32 (.v (.int .u8 0))), none⟩ ::
⟨(some 11), .alloc 24 (List.replicate 32 (.v (.int .u8 0))), none⟩ ::
[]))
(.seq
(.seq
(.plain (
⟨(some 18), .mv (.tmp 2), none⟩ ::
⟨(some 19), .mv (.tmp 3), none⟩ ::
⟨(some 20), .bin .eql (.tmp 18) (.tmp 19), none⟩ ::
⟨(some 21), .mv (.tmp 20), none⟩ ::
⟨(some 22), .mv (.tmp 4), (some (21, true))⟩ ::
⟨(some 23), .pick (.tmp 21) (.tmp 22) (.const (.bool false)), none⟩ ::
[]))
(.cond (.tmp 23)
(.seq
(.draw (
⟨(some 24), .load true 32 (.tmp 6), none⟩ ::
⟨(some 25), .load true 32 (.tmp 6), none⟩ ::
⟨none, .store 32 (.tmp 10) (.tmp 24), none⟩ ::
⟨none, .store 32 (.tmp 11) (.tmp 25), none⟩ ::
[])
(⟨0, [], []⟩ :: ⟨1, [], []⟩ :: ⟨2, [], [1]⟩ :: ⟨3, [], []⟩ :: []))
.ret)
.skip))
(.seq
(.plain (
⟨(some 26), .mv (.tmp 0), none⟩ ::
⟨(some 27), .callF 61 [(.tmp 26)], none⟩ ::
⟨(some 12), .alloc 24 (List.replicate 32 (.v (.int .u8 0))), none⟩ ::
⟨none, .store 32 (.tmp 12) (.tmp 27), none⟩ ::
[]))
(.seq
(.seq
(.plain (
⟨(some 28), .mv (.tmp 0), none⟩ ::
⟨(some 29), .nilc (.tmp 28), none⟩ ::
⟨(some 30), .fa 2 (.tmp 29), none⟩ ::
⟨(some 31), .load false 1 (.tmp 30), none⟩ ::
⟨(some 32), .mv (.tmp 31), none⟩ ::
⟨(some 33), .mv (.tmp 2), (some (32, false))⟩ ::
⟨(some 34), .mv (.tmp 3), (some (32, false))⟩ ::
⟨(some 35), .bin .eql (.tmp 33) (.tmp 34), (some (32, false))⟩ ::
⟨(some 36), .pick (.tmp 32) (.const (.bool true)) (.tmp 35), none⟩ ::
[]))
(.cond (.tmp 36)
(.seq
(.draw (
⟨(some 37), .load true 32 (.tmp 12), none⟩ ::
⟨(some 38), .load true 32 (.tmp 12), none⟩ ::
⟨none, .store 32 (.tmp 10) (.tmp 37), none⟩ ::
⟨none, .store 32 (.tmp 11) (.tmp 38), none⟩ ::
[])
(⟨0, [], []⟩ :: ⟨1, [], []⟩ :: ⟨2, [], [1]⟩ :: ⟨3, [], []⟩ :: []))
.ret)
.skip))
(.seq
(.plain (
⟨(some 39), .mv (.tmp 3), none⟩ ::
⟨(some 40), .callF 54 [(.tmp 39)], none⟩ ::
⟨(some 13), .mv (.tmp 40), none⟩ ::
[]))
(.seq
(.seq
(.plain (
⟨(some 41), .mv (.tmp 2), none⟩ ::
⟨(some 42), .mv (.tmp 13), none⟩ ::
⟨(some 43), .bin .leq (.tmp 41) (.tmp 42), none⟩ ::
[]))
(.cond (.tmp 43)
(.seq
(.plain (
⟨(some 45), .mv (.tmp 0), none⟩ ::
⟨(some 46), .load true 32 (.tmp 6), none⟩ ::
⟨(some 47), .mv (.tmp 2), none⟩ ::
⟨(some 48), .mv (.tmp 13), none⟩ ::
⟨(some 49), .mv (.tmp 4), none⟩ ::
⟨(some 50), .callF 35 [(.tmp 45), (.tmp 46), (.tmp 47), (.tmp 48), (.tmp 49)], none⟩ ::
⟨(some 44), .mv (.tmp 50), none⟩ ::
⟨(some 51), .ext (.tmp 44) 0, none⟩ ::
⟨(some 52), .ext (.tmp 44) 1, none⟩ ::
⟨(some 14), .alloc 24 (List.replicate 32 (.v (.int .u8 0))), none⟩ ::
⟨(some 15), .alloc 24 (List.replicate 32 (.v (.int .u8 0))), none⟩ ::
⟨none, .store 32 (.tmp 14) (.tmp 51), none⟩ ::
⟨none, .store 32 (.tmp 15) (.tmp 52), none⟩ ::
[]))
(.seq
(.draw (
⟨(some 53), .load true 32 (.tmp 14), none⟩ ::
⟨(some 54), .mv (.tmp 0), none⟩ ::
⟨(some 55), .load true 32 (.tmp 15), none⟩ ::
⟨(some 56), .load true 32 (.tmp 12), none⟩ ::
⟨(some 57), .callF 55 [(.tmp 55), (.tmp 56)], none⟩ ::
⟨(some 58), .callF 62 [(.tmp 54), (.tmp 57)], none⟩ ::
⟨none, .store 32 (.tmp 10) (.tmp 53), none⟩ ::
⟨none, .store 32 (.tmp 11) (.tmp 58), none⟩ ::
[])
(⟨0, [], []⟩ :: ⟨1, [], []⟩ :: ⟨2, [], []⟩ :: ⟨3, [], []⟩ :: ⟨4, [], [0]⟩ :: ⟨5, [], [0]⟩ :: ⟨6, [], []⟩ :: ⟨7, [], []⟩ :: []))
.ret))
.skip))
(.seq
(.plain (
⟨(some 60), .mv (.tmp 0), none⟩ ::
⟨(some 61), .load true 32 (.tmp 6), none⟩ ::
⟨(some 62), .mv (.tmp 2), none⟩ ::
⟨(some 63), .mv (.tmp 13), none⟩ ::
⟨(some 64), .bin .sub (.tmp 62) (.tmp 63), none⟩ ::
⟨(some 65), .mv (.tmp 3), none⟩ ::
⟨(some 66), .mv (.tmp 13), none⟩ ::
⟨(some 67), .bin .sub (.tmp 65) (.tmp 66), none⟩ ::
⟨(some 68), .callF 35 [(.tmp 60), (.tmp 61), (.tmp 64), (.tmp 67), (.const (.bool false))], none⟩ ::
⟨(some 59), .mv (.tmp 68), none⟩ ::
⟨(some 69), .ext (.tmp 59) 0, none⟩ ::
⟨(some 70), .ext (.tmp 59) 1, none⟩ ::
⟨(some 16), .alloc 24 (List.replicate 32 (.v (.int .u8 0))), none⟩ ::
⟨(some 17), .alloc 24 (List.replicate 32 (.v (.int .u8 0))), none⟩ ::
⟨none, .store 32 (.tmp 16) (.tmp 69), none⟩ ::
⟨none, .store 32 (.tmp 17) (.tmp 70), none⟩ ::
[]))
(.seq
(.draw (
⟨(some 71), .mv (.tmp 0), none⟩ ::
⟨(some 72), .load true 32 (.tmp 12), none⟩ ::
⟨(some 73), .load true 32 (.tmp 16), none⟩ ::
⟨(some 74), .callF 55 [(.tmp 72), (.tmp 73)], none⟩ ::
⟨(some 75), .callF 62 [(.tmp 71), (.tmp 74)], none⟩ ::
⟨(some 76), .mv (.tmp 0), none⟩ ::
⟨(some 77), .load true 32 (.tmp 12), none⟩ ::
⟨(some 78), .load true 32 (.tmp 17), none⟩ ::
⟨(some 79), .callF 55 [(.tmp 77), (.tmp 78)], none⟩ ::
⟨(some 80), .callF 62 [(.tmp 76), (.tmp 79)], none⟩ ::
⟨none, .store 32 (.tmp 10) (.tmp 75), none⟩ ::
⟨none, .store 32 (.tmp 11) (.tmp 80), none⟩ ::
[])
(⟨0, [], []⟩ :: ⟨1, [], []⟩ :: ⟨2, [], []⟩ :: ⟨5, [], []⟩ :: ⟨6, [], []⟩ :: ⟨7, [], []⟩ :: ⟨3, [], [6, 7]⟩ :: ⟨4, [], [6, 7]⟩ :: ⟨8, [], []⟩ :: ⟨9, [], []⟩ :: ⟨10, [], []⟩ :: ⟨11, [], []⟩ :: []))
.ret))))))))
theorem prep35 : prepFunc Try.prog 35 = some F35 := by kernel_rfl

-- indenture/history.rest
def F36 : AFunc where
  ntmps := 59
  nparams := 3
  results := [(6, none)]
  code :=
(.seq
(.plain (
⟨(some 6), .mv (.const (.slice none 0 0)), none⟩ ::
[]))
(.seq
(.plain (
⟨(some 8), .mv (.tmp 0), none⟩ ::
⟨(some 9), .len (.tmp 8), none⟩ ::
⟨(some 7), .mv (.tmp 9), none⟩ ::
[]))
(.block 0
(.seq
(.plain (
⟨(some 27), .mv (.tmp 1), none⟩ ::
⟨(some 28), .mv (.tmp 7), none⟩ ::
⟨(some 29), .bin .eql (.tmp 27) (.tmp 28), none⟩ ::
⟨(some 30), .mv (.tmp 29), none⟩ ::
⟨(some 31), .mv (.tmp 2), (some (30, true))⟩ ::
⟨(some 32), .pick (.tmp 30) (.tmp 31) (.const (.bool false)), none⟩ ::
⟨(some 26), .mv (.tmp 32), none⟩ ::
[]))
(.cond (.tmp 26)
(.seq
(.plain (
⟨(some 6), .mv (.const (.slice none 0 0)), none⟩ ::
[]))
.ret)
(.seq
(.plain (
⟨(some 34), .mv (.tmp 1), none⟩ ::
⟨(some 35), .mv (.tmp 7), none⟩ ::
⟨(some 36), .bin .eql (.tmp 34) (.tmp 35), none⟩ ::
⟨(some 33), .mv (.tmp 36), none⟩ ::
[]))
(.cond (.tmp 33)
(.seq
(.plain (
⟨(some 37), .mv (.tmp 0), none⟩ ::
⟨(some 38), .callF 25 [(.tmp 37)], none⟩ ::
⟨(some 39), .bsl 32 [(.tmp 38)], none⟩ ::
⟨(some 6), .mv (.tmp 39), none⟩ ::
[]))
.ret)
(.seq
(.plain (
⟨(some 41), .mv (.tmp 1), none⟩ ::
⟨(some 42), .mv (.tmp 7), none⟩ ::
⟨(some 43), .callF 54 [(.tmp 42)], none⟩ ::
⟨(some 44), .bin .leq (.tmp 41) (.tmp 43), none⟩ ::
⟨(some 40), .mv (.tmp 44), none⟩ ::
[]))
(.cond (.tmp 40)
(.seq
(.plain (
⟨(some 45), .mv (.tmp 0), none⟩ ::
⟨(some 46), .mv (.tmp 7), none⟩ ::
⟨(some 47), .callF 54 [(.tmp 46)], none⟩ ::
⟨(some 48), .slc 32 (.tmp 45) none (some (.tmp 47)), none⟩ ::
⟨(some 49), .mv (.tmp 1), none⟩ ::
⟨(some 50), .mv (.tmp 2), none⟩ ::
⟨(some 51), .callF 36 [(.tmp 48), (.tmp 49), (.tmp 50)], none⟩ ::
⟨(some 52), .mv (.tmp 0), none⟩ ::
⟨(some 53), .mv (.tmp 7), none⟩ ::
⟨(some 54), .callF 54 [(.tmp 53)], none⟩ ::
⟨(some 55), .slc 32 (.tmp 52) (some (.tmp 54)) none, none⟩ ::
⟨(some 56), .callF 25 [(.tmp 55)], none⟩ ::
⟨(some 57), .bsl 32 [(.tmp 56)], none⟩ ::
⟨(some 58), .app 32 32 (.tmp 51) (.tmp 57), none⟩ ::
⟨(some 6), .mv (.tmp 58), none⟩ ::
[]))
.ret)
(.seq
(.draw (
⟨(some 10), .mv (.tmp 0), none⟩ ::
⟨(some 11), .mv (.tmp 7), none⟩ ::
⟨(some 12), .callF 54 [(.tmp 11)], none⟩ ::
⟨(some 13), .slc 32 (.tmp 10) (some (.tmp 12)) none, none⟩ ::
⟨(some 14), .mv (.tmp 1), none⟩ ::
⟨(some 15), .mv (.tmp 7), none⟩ ::
⟨(some 16), .callF 54 [(.tmp 15)], none⟩ ::
⟨(some 17), .bin .sub (.tmp 14) (.tmp 16), none⟩ ::
⟨(some 18), .callF 36 [(.tmp 13), (.tmp 17), (.const (.bool false))], none⟩ ::
⟨(some 19), .mv (.tmp 0), none⟩ ::
⟨(some 20), .mv (.tmp 7), none⟩ ::
⟨(some 21), .callF 54 [(.tmp 20)], none⟩ ::
⟨(some 22), .slc 32 (.tmp 19) none (some (.tmp 21)), none⟩ ::
⟨(some 23), .callF 25 [(.tmp 22)], none⟩ ::
⟨(some 24), .bsl 32 [(.tmp 23)], none⟩ ::
⟨(some 25), .app 32 32 (.tmp 18) (.tmp 24), none⟩ ::
⟨(some 6), .mv (.tmp 25), none⟩ ::
[])
(⟨0, [], []⟩ :: ⟨1, [], []⟩ :: ⟨4, [], []⟩ :: ⟨5, [], []⟩ :: ⟨9, [], []⟩ :: ⟨10, [], []⟩ :: ⟨2, [], []⟩ :: ⟨3, [], []⟩ :: ⟨6, [], []⟩ :: ⟨7, [], []⟩ :: ⟨8, [], []⟩ :: ⟨11, [], []⟩ :: ⟨12, [], []⟩ :: ⟨13, [], []⟩ :: ⟨14, [], []⟩ :: ⟨15, [], []⟩ :: ⟨16, [], []⟩ :: []))
.ret))))))))))
theorem prep36 : prepFunc Try.prog 36 = some F36 := by kernel_rfl

-- indenture/indentureref22.Sum
def F37 : AFunc where
  ntmps := 6
  nparams := 1
  results := [(2, (some (true, 32)))]
  code :=
(.seq
(.plain (
⟨(some 1), .box 26 (.tmp 0), none⟩ ::
⟨(some 2), .alloc 24 (List.replicate 32 (.v (.int .u8 0))), none⟩ ::
[]))
(.seq
(.plain (
⟨(some 3), .load true 65 (.tmp 1), none⟩ ::
⟨(some 4), .callF 64 [(.tmp 3)], none⟩ ::
⟨(some 5), .callF 63 [(.tmp 4)], none⟩ ::
⟨none, .store 32 (.tmp 2) (.tmp 5), none⟩ ::
[]))
.ret))
theorem prep37 : prepFunc Try.prog 37 = some F37 := by kernel_rfl

end Go.Proofs.Ytapjikladjoicaa
set_option maxRecDepth 100000
namespace Go.Proofs.Ytapjikladjoicaa
open Go Go.Av

theorem hm_1 : Try.prog.follows .mixedOrders = true := by kernel_rfl

-- indenture/indentureref18.Grows
def F38 : AFunc where
  ntmps := 58
  nparams := 5
  results := [(10, none)]
  code :=
(.seq
(.plain (
⟨(some 5), .box 24 (.tmp 0), none⟩ ::
⟨(some 7), .box 24 (.tmp 2), none⟩ ::
⟨(some 10), .mv (.const (.bool false)), none⟩ ::
[]))
(.seq
(.seq
(.plain (
⟨(some 14), .mv (.tmp 1), none⟩ ::
⟨(some 15), .bin .lss (.tmp 14) (.const (.int .i64 0)), none⟩ ::
⟨(some 16), .mv (.tmp 15), none⟩ ::
⟨(some 17), .mv (.tmp 1), (some (16, false))⟩ ::
⟨(some 18), .mv (.tmp 3), (some (16, false))⟩ ::
⟨(some 19), .bin .gtr (.tmp 17) (.tmp 18), (some (16, false))⟩ ::
⟨(some 20), .pick (.tmp 16) (.const (.bool true)) (.tmp 19), none⟩ ::
⟨(some 21), .mv (.tmp 20), none⟩ ::
⟨(some 22), .mv (.tmp 3), (some (21, false))⟩ ::
⟨(some 23), .bin .gtr (.tmp 22) (.const (.int .i64 1099511627776)), (some (21, false))⟩ ::
⟨(some 24), .pick (.tmp 21) (.const (.bool true)) (.tmp 23), none⟩ ::
[]))
(.cond (.tmp 24)
(.seq
(.plain (
⟨(some 10), .mv (.const (.bool false)), none⟩ ::
[]))
.ret)
.skip))
(.seq
(.seq
(.plain (
⟨(some 25), .mv (.tmp 1), none⟩ ::
⟨(some 26), .bin .eql (.tmp 25) (.const (.int .i64 0)), none⟩ ::
[]))
(.cond (.tmp 26)
(.seq
(.draw (
⟨(some 27), .load true 32 (.tmp 5), none⟩ ::
⟨(some 28), .callF 65 [(.const (.slice none 0 0))], none⟩ ::
⟨(some 29), .eqv false [(32, .int .u8)] (.tmp 27) (.tmp 28), none⟩ ::
⟨(some 30), .mv (.tmp 29), none⟩ ::
⟨(some 31), .mv (.tmp 4), (some (30, true))⟩ ::
⟨(some 32), .len (.tmp 31), (some (30, true))⟩ ::
⟨(some 33), .bin .eql (.tmp 32) (.const (.int .i64 0)), (some (30, true))⟩ ::
⟨(some 34), .pick (.tmp 30) (.tmp 33) (.const (.bool false)), none⟩ ::
⟨(some 10), .mv (.tmp 34), none⟩ ::
[])
(⟨0, [], []⟩ :: ⟨1, [], [0]⟩ :: ⟨2, [], []⟩ :: ⟨3, [], []⟩ :: ⟨4, [], []⟩ :: ⟨5, [], []⟩ :: ⟨6, [], []⟩ :: ⟨7, [], []⟩ :: ⟨8, [], []⟩ :: []))
.ret)
.skip))
(.seq
(.seq
(.plain (
⟨(some 35), .mv (.tmp 4), none⟩ ::
⟨(some 36), .len (.tmp 35), none⟩ ::
⟨(some 37), .mv (.tmp 1), none⟩ ::
⟨(some 38), .mv (.tmp 3), none⟩ ::
⟨(some 39), .callF 66 [(.tmp 37), (.tmp 38), (.const (.bool true))], none⟩ ::
⟨(some 40), .bin .neq (.tmp 36) (.tmp 39), none⟩ ::
[]))
(.cond (.tmp 40)
(.seq
(.plain (
⟨(some 10), .mv (.const (.bool false)), none⟩ ::
[]))
.ret)
.skip))
(.seq
(.plain (
⟨(some 42), .load true 32 (.tmp 5), none⟩ ::
⟨(some 43), .mv (.tmp 1), none⟩ ::
⟨(some 44), .mv (.tmp 3), none⟩ ::
⟨(some 45), .mv (.tmp 4), none⟩ ::
⟨(some 46), .callF 67 [(.tmp 42), (.tmp 43), (.tmp 44), (.const (.bool true)), (.tmp 45)], none⟩ ::
⟨(some 41), .mv (.tmp 46), none⟩ ::
⟨(some 47), .ext (.tmp 41) 0, none⟩ ::
⟨(some 48), .ext (.tmp 41) 1, none⟩ ::
⟨(some 49), .ext (.tmp 41) 2, none⟩ ::
⟨(some 11), .alloc 24 (List.replicate 32 (.v (.int .u8 0))), none⟩ ::
⟨(some 12), .alloc 24 (List.replicate 32 (.v (.int .u8 0))), none⟩ ::
⟨none, .store 32 (.tmp 11) (.tmp 47), none⟩ ::
⟨none, .store 32 (.tmp 12) (.tmp 48), none⟩ ::
⟨(some 13), .mv (.tmp 49), none⟩ ::
[]))
(.seq
(.plain (
⟨(some 50), .load true 32 (.tmp 11), none⟩ ::
⟨(some 51), .load true 32 (.tmp 5), none⟩ ::
⟨(some 52), .eqv false [(32, .int .u8)] (.tmp 50) (.tmp 51), none⟩ ::
⟨(some 53), .mv (.tmp 52), none⟩ ::
⟨(some 54), .load true 32 (.tmp 12), (some (53, true))⟩ ::
⟨(some 55), .load true 32 (.tmp 7), (some (53, true))⟩ ::
⟨(some 56), .eqv false [(32, .int .u8)] (.tmp 54) (.tmp 55), (some (53, true))⟩ ::
⟨(some 57), .pick (.tmp 53) (.tmp 56) (.const (.bool false)), none⟩ ::
⟨(some 10), .mv (.tmp 57), none⟩ ::
[]))
.ret))))))
theorem prep38 : prepFunc Try.prog 38 = some F38 := by kernel_rfl

-- indenture/codec.New
def F39 : AFunc where
  ntmps := 7
  nparams := 1
  results := [(2, none)]
  code :=
(.seq
(.plain (
⟨(some 2), .mv (.const (.pointer none)), none⟩ ::
[]))
(.seq
(.plain (
⟨(some 3), .mv (.tmp 0), none⟩ ::
⟨(some 4), .callF 68 [(.tmp 3)], none⟩ ::
⟨(some 5), .bld [(.sl [] .nil), (.v (.int .i64 0))] [(0, 1, (.tmp 4))], none⟩ ::
⟨(some 6), .box 106 (.tmp 5), none⟩ ::
⟨(some 2), .mv (.tmp 6), none⟩ ::
[]))
.ret))
theorem prep39 : prepFunc Try.prog 39 = some F39 := by kernel_rfl

-- indenture/light.get
def F40 : AFunc where
  ntmps := 10
  nparams := 1
  results := [(2, (some (true, 65)))]
  code :=
(.seq
(.plain (
⟨(some 2), .alloc 26 ([(.v (.int .i64 0))] ++ List.replicate 64 (.v (.int .u8 0))), none⟩ ::
[]))
(.seq
(.plain (
⟨(some 3), .mv (.tmp 0), none⟩ ::
⟨(some 4), .callF 41 [(.tmp 3)], none⟩ ::
⟨(some 5), .mv (.tmp 0), none⟩ ::
⟨(some 6), .callF 69 [(.tmp 5)], none⟩ ::
⟨(some 7), .mv (.tmp 0), none⟩ ::
⟨(some 8), .callF 69 [(.tmp 7)], none⟩ ::
⟨(some 9), .bld ([(.v (.int .i64 0))] ++ List.replicate 64 (.v (.int .u8 0))) [(0, 1, (.tmp 4)), (1, 32, (.tmp 6)), (33, 32, (.tmp 8))], none⟩ ::
⟨none, .store 65 (.tmp 2) (.tmp 9), none⟩ ::
[]))
.ret))
theorem prep40 : prepFunc Try.prog 40 = some F40 := by kernel_rfl

-- (*indenture/codec.Reader).Num
def F41 : AFunc where
  ntmps := 30
  nparams := 1
  results := [(2, none)]
  code :=
(.seq
(.plain (
⟨(some 2), .mv (.const (.int .i64 0)), none⟩ ::
[]))
(.seq
(.plain (
⟨(some 9), .mv (.tmp 0), none⟩ ::
⟨(some 10), .callF 70 [(.tmp 9), (.const (.int .i64 8))], none⟩ ::
⟨(some 8), .mv (.tmp 10), none⟩ ::
⟨(some 11), .ext (.tmp 8) 0, none⟩ ::
⟨(some 12), .ext (.tmp 8) 1, none⟩ ::
⟨(some 3), .mv (.tmp 11), none⟩ ::
⟨(some 4), .mv (.tmp 12), none⟩ ::
[]))
(.seq
(.seq
(.plain (
⟨(some 13), .mv (.tmp 4), none⟩ ::
⟨(some 14), .un .not (.tmp 13), none⟩ ::
[]))
(.cond (.tmp 14)
(.seq
(.plain (
⟨(some 2), .mv (.const (.int .i64 0)), none⟩ ::
[]))
.ret)
.skip))
(.seq
(.plain (
⟨(some 5), .mv (.const (.int .u64 0)), none⟩ ::
[]))
(.seq
(.seq
(.plain (
⟨(some 15), .mv (.tmp 3), none⟩ ::
⟨(some 16), .len (.tmp 15), none⟩ ::
⟨(some 17), .mv (.const (.int .i64 0)), none⟩ ::
[]))
(.block 0
(.loop
(.seq
(.plain (
⟨(some 18), .bin .lss (.tmp 17) (.tmp 16), none⟩ ::
[]))
(.seq
(.cond (.tmp 18)
.skip
(.exit 0))
(.seq
(.block 1
(.seq
(.plain (
⟨(some 19), .iaS 1 (.tmp 15) (.tmp 17), none⟩ ::
⟨(some 20), .load false 1 (.tmp 19), none⟩ ::
⟨(some 7), .mv (.tmp 20), none⟩ ::
[]))
(.plain (
⟨(some 21), .mv (.tmp 5), none⟩ ::
⟨(some 22), .bin .shl (.tmp 21) (.const (.int .u64 8)), none⟩ ::
⟨(some 23), .mv (.tmp 7), none⟩ ::
⟨(some 24), .cvt .u64 (.tmp 23), none⟩ ::
⟨(some 25), .bin .or (.tmp 22) (.tmp 24), none⟩ ::
⟨(some 5), .mv (.tmp 25), none⟩ ::
[]))))
(.plain (
⟨(some 26), .bin .add (.tmp 17) (.const (.int .i64 1)), none⟩ ::
⟨(some 17), .mv (.tmp 26), none⟩ ::
[]))))))))
(.seq
(.plain (
⟨(some 27), .mv (.tmp 5), none⟩ ::
⟨(some 28), .bin .xor (.tmp 27) (.const (.int .u64 9223372036854775808)), none⟩ ::
⟨(some 29), .cvt .i64 (.tmp 28), none⟩ ::
⟨(some 2), .mv (.tmp 29), none⟩ ::
[]))
.ret))))))
theorem prep41 : prepFunc Try.prog 41 = some F41 := by kernel_rfl

-- (*indenture/codec.Reader).Truth
def F42 : AFunc where
  ntmps := 12
  nparams := 1
  results := [(2, none)]
  code :=
(.seq
(.plain (
⟨(some 2), .mv (.const (.bool false)), none⟩ ::
[]))
(.seq
(.plain (
⟨(some 4), .mv (.tmp 0), none⟩ ::
⟨(some 5), .callF 71 [(.tmp 4)], none⟩ ::
⟨(some 3), .mv (.tmp 5), none⟩ ::
[]))
(.seq
(.seq
(.plain (
⟨(some 6), .mv (.tmp 3), none⟩ ::
⟨(some 7), .bin .gtr (.tmp 6) (.const (.int .u8 1)), none⟩ ::
[]))
(.cond (.tmp 7)
(.plain (
⟨(some 8), .mv (.tmp 0), none⟩ ::
⟨(some 9), .callF 72 [(.tmp 8), (.const (.int .i64 21))], none⟩ ::
[]))
.skip))
(.seq
(.plain (
⟨(some 10), .mv (.tmp 3), none⟩ ::
⟨(some 11), .bin .eql (.tmp 10) (.const (.int .u8 1)), none⟩ ::
⟨(some 2), .mv (.tmp 11), none⟩ ::
[]))
.ret))))
theorem prep42 : prepFunc Try.prog 42 = some F42 := by kernel_rfl

-- (*indenture/codec.Reader).End
def F43 : AFunc where
  ntmps := 15
  nparams := 1
  results := [(2, none)]
  code :=
(.seq
(.plain (
⟨(some 2), .mv (.const (.int .i64 0)), none⟩ ::
[]))
(.seq
(.seq
(.plain (
⟨(some 3), .mv (.tmp 0), none⟩ ::
⟨(some 4), .nilc (.tmp 3), none⟩ ::
⟨(some 5), .fa 0 (.tmp 4), none⟩ ::
⟨(some 6), .load false 1 (.tmp 5), none⟩ ::
⟨(some 7), .len (.tmp 6), none⟩ ::
⟨(some 8), .bin .gtr (.tmp 7) (.const (.int .i64 0)), none⟩ ::
[]))
(.cond (.tmp 8)
(.plain (
⟨(some 9), .mv (.tmp 0), none⟩ ::
⟨(some 10), .callF 72 [(.tmp 9), (.const (.int .i64 22))], none⟩ ::
[]))
.skip))
(.seq
(.plain (
⟨(some 11), .mv (.tmp 0), none⟩ ::
⟨(some 12), .nilc (.tmp 11), none⟩ ::
⟨(some 13), .fa 1 (.tmp 12), none⟩ ::
⟨(some 14), .load false 1 (.tmp 13), none⟩ ::
⟨(some 2), .mv (.tmp 14), none⟩ ::
[]))
.ret)))
theorem prep43 : prepFunc Try.prog 43 = some F43 := by kernel_rfl

-- slices.Equal[[]byte,byte]
def F44 : AFunc where
  ntmps := 26
  nparams := 2
  results := [(4, none)]
  code :=
(.seq
(.plain (
⟨(some 4), .mv (.const (.bool false)), none⟩ ::
[]))
(.seq
(.seq
(.plain (
⟨(some 6), .mv (.tmp 0), none⟩ ::
⟨(some 7), .len (.tmp 6), none⟩ ::
⟨(some 8), .mv (.tmp 1), none⟩ ::
⟨(some 9), .len (.tmp 8), none⟩ ::
⟨(some 10), .bin .neq (.tmp 7) (.tmp 9), none⟩ ::
[]))
(.cond (.tmp 10)
(.seq
(.plain (
⟨(some 4), .mv (.const (.bool false)), none⟩ ::
[]))
.ret)
.skip))
(.seq
(.seq
(.plain (
⟨(some 11), .mv (.tmp 0), none⟩ ::
⟨(some 12), .len (.tmp 11), none⟩ ::
⟨(some 13), .mv (.const (.int .i64 0)), none⟩ ::
[]))
(.block 0
(.loop
(.seq
(.plain (
⟨(some 14), .bin .lss (.tmp 13) (.tmp 12), none⟩ ::
[]))
(.seq
(.cond (.tmp 14)
.skip
(.exit 0))
(.seq
(.block 1
(.seq
(.plain (
⟨(some 15), .mv (.tmp 13), none⟩ ::
⟨(some 5), .mv (.tmp 15), none⟩ ::
[]))
(.seq
(.draw (
⟨(some 16), .mv (.tmp 0), none⟩ ::
⟨(some 17), .mv (.tmp 5), none⟩ ::
⟨(some 18), .iaS 1 (.tmp 16) (.tmp 17), none⟩ ::
⟨(some 19), .load false 1 (.tmp 18), none⟩ ::
⟨(some 20), .mv (.tmp 1), none⟩ ::
⟨(some 21), .mv (.tmp 5), none⟩ ::
⟨(some 22), .iaS 1 (.tmp 20) (.tmp 21), none⟩ ::
⟨(some 23), .load false 1 (.tmp 22), none⟩ ::
⟨(some 24), .bin .neq (.tmp 19) (.tmp 23), none⟩ ::
[])
(⟨0, [], []⟩ :: ⟨1, [], []⟩ :: ⟨2, [], []⟩ :: ⟨3, [], []⟩ :: ⟨4, [], []⟩ :: ⟨5, [], []⟩ :: ⟨6, [], []⟩ :: ⟨7, [], []⟩ :: ⟨8, [], []⟩ :: []))
(.cond (.tmp 24)
(.seq
(.plain (
⟨(some 4), .mv (.const (.bool false)), none⟩ ::
[]))
.ret)
.skip))))
(.plain (
⟨(some 25), .bin .add (.tmp 13) (.const (.int .i64 1)), none⟩ ::
⟨(some 13), .mv (.tmp 25), none⟩ ::
[]))))))))
(.seq
(.plain (
⟨(some 4), .mv (.const (.bool true)), none⟩ ::
[]))
.ret))))
theorem prep44 : prepFunc Try.prog 44 = some F44 := by kernel_rfl

-- indenture/light.put
def F45 : AFunc where
  ntmps := 16
  nparams := 2
  results := []
  code :=
(.seq
(.plain (
⟨(some 3), .box 26 (.tmp 1), none⟩ ::
[]))
(.seq
(.plain (
⟨(some 4), .mv (.tmp 0), none⟩ ::
⟨(some 5), .fa 0 (.tmp 3), none⟩ ::
⟨(some 6), .load false 1 (.tmp 5), none⟩ ::
⟨(some 7), .callF 46 [(.tmp 4), (.tmp 6)], none⟩ ::
[]))
(.seq
(.plain (
⟨(some 8), .mv (.tmp 0), none⟩ ::
⟨(some 9), .fa 1 (.tmp 3), none⟩ ::
⟨(some 10), .load true 32 (.tmp 9), none⟩ ::
⟨(some 11), .callF 73 [(.tmp 8), (.tmp 10)], none⟩ ::
[]))
(.plain (
⟨(some 12), .mv (.tmp 0), none⟩ ::
⟨(some 13), .fa 33 (.tmp 3), none⟩ ::
⟨(some 14), .load true 32 (.tmp 13), none⟩ ::
⟨(some 15), .callF 73 [(.tmp 12), (.tmp 14)], none⟩ ::
[])))))
theorem prep45 : prepFunc Try.prog 45 = some F45 := by kernel_rfl

-- (*indenture/codec.Writer).Num
def F46 : AFunc where
  ntmps := 19
  nparams := 2
  results := []
  code :=
(.seq
(.plain (
⟨(some 6), .mv (.tmp 1), none⟩ ::
⟨(some 7), .cvt .u64 (.tmp 6), none⟩ ::
⟨(some 8), .bin .xor (.tmp 7) (.const (.int .u64 9223372036854775808)), none⟩ ::
⟨(some 4), .mv (.tmp 8), none⟩ ::
[]))
(.seq
(.plain (
⟨(some 5), .mv (.const (.int .i64 56)), none⟩ ::
[]))
(.block 0
(.loop
(.seq
(.seq
(.plain (
⟨(some 9), .mv (.tmp 5), none⟩ ::
⟨(some 10), .bin .geq (.tmp 9) (.const (.int .i64 0)), none⟩ ::
[]))
(.cond (.tmp 10)
.skip
(.exit 0)))
(.seq
(.block 1
(.plain (
⟨(some 13), .mv (.tmp 0), none⟩ ::
⟨(some 14), .mv (.tmp 4), none⟩ ::
⟨(some 15), .mv (.tmp 5), none⟩ ::
⟨(some 16), .bin .shr (.tmp 14) (.tmp 15), none⟩ ::
⟨(some 17), .cvt .u8 (.tmp 16), none⟩ ::
⟨(some 18), .callF 74 [(.tmp 13), (.tmp 17)], none⟩ ::
[])))
(.plain (
⟨(some 11), .mv (.tmp 5), none⟩ ::
⟨(some 12), .bin .sub (.tmp 11) (.const (.int .i64 8)), none⟩ ::
⟨(some 5), .mv (.tmp 12), none⟩ ::
[]))))))))
theorem prep46 : prepFunc Try.prog 46 = some F46 := by kernel_rfl

-- (*indenture/codec.Writer).Truth
def F47 : AFunc where
  ntmps := 9
  nparams := 2
  results := []
  code :=
(.seq
(.seq
(.plain (
⟨(some 4), .mv (.tmp 1), none⟩ ::
[]))
(.cond (.tmp 4)
(.seq
(.plain (
⟨(some 5), .mv (.tmp 0), none⟩ ::
⟨(some 6), .callF 74 [(.tmp 5), (.const (.int .u8 1))], none⟩ ::
[]))
.ret)
.skip))
(.plain (
⟨(some 7), .mv (.tmp 0), none⟩ ::
⟨(some 8), .callF 74 [(.tmp 7), (.const (.int .u8 0))], none⟩ ::
[])))
theorem prep47 : prepFunc Try.prog 47 = some F47 := by kernel_rfl

-- (*indenture/codec.Writer).Bytes
def F48 : AFunc where
  ntmps := 13
  nparams := 1
  results := [(2, none)]
  code :=
(.seq
(.plain (
⟨(some 2), .mv (.const (.slice none 0 0)), none⟩ ::
[]))
(.seq
(.seq
(.plain (
⟨(some 3), .mv (.tmp 0), none⟩ ::
⟨(some 4), .nilc (.tmp 3), none⟩ ::
⟨(some 5), .fa 1 (.tmp 4), none⟩ ::
⟨(some 6), .load false 1 (.tmp 5), none⟩ ::
⟨(some 7), .bin .neq (.tmp 6) (.const (.int .i64 0)), none⟩ ::
[]))
(.cond (.tmp 7)
(.seq
(.plain (
⟨(some 2), .mv (.const (.slice none 0 0)), none⟩ ::
[]))
.ret)
.skip))
(.seq
(.plain (
⟨(some 8), .mv (.tmp 0), none⟩ ::
⟨(some 9), .nilc (.tmp 8), none⟩ ::
⟨(some 10), .fa 0 (.tmp 9), none⟩ ::
⟨(some 11), .load false 1 (.tmp 10), none⟩ ::
⟨(some 12), .callF 68 [(.tmp 11)], none⟩ ::
⟨(some 2), .mv (.tmp 12), none⟩ ::
[]))
.ret)))
theorem prep48 : prepFunc Try.prog 48 = some F48 := by kernel_rfl

-- indenture/indentureref34.opening
def F49 : AFunc where
  ntmps := 15
  nparams := 1
  results := [(2, none)]
  code :=
(.seq
(.plain (
⟨(some 1), .boxR 26 (.tmp 0), none⟩ ::
⟨(some 2), .mv (.const (.slice none 0 0)), none⟩ ::
[]))
(.seq
(.plain (
⟨(some 4), .fa 0 (.tmp 1), none⟩ ::
⟨(some 5), .load false 1 (.tmp 4), none⟩ ::
⟨(some 6), .callF 50 [(.tmp 5)], none⟩ ::
⟨(some 3), .mv (.tmp 6), none⟩ ::
[]))
(.seq
(.plain (
⟨(some 7), .mv (.tmp 3), none⟩ ::
⟨(some 8), .fa 1 (.tmp 1), none⟩ ::
⟨(some 9), .slcR 1 32 (.tmp 8) none none, none⟩ ::
⟨(some 10), .app 1 1 (.tmp 7) (.tmp 9), none⟩ ::
⟨(some 3), .mv (.tmp 10), none⟩ ::
[]))
(.seq
(.plain (
⟨(some 11), .mv (.tmp 3), none⟩ ::
⟨(some 12), .fa 33 (.tmp 1), none⟩ ::
⟨(some 13), .slcR 1 32 (.tmp 12) none none, none⟩ ::
⟨(some 14), .app 1 1 (.tmp 11) (.tmp 13), none⟩ ::
⟨(some 2), .mv (.tmp 14), none⟩ ::
[]))
.ret))))
theorem prep49 : prepFunc Try.prog 49 = some F49 := by kernel_rfl

-- indenture/indentureref02.Num
def F50 : AFunc where
  ntmps := 23
  nparams := 1
  results := [(2, none)]
  code :=
(.seq
(.plain (
⟨(some 2), .mv (.const (.slice none 0 0)), none⟩ ::
[]))
(.seq
(.plain (
⟨(some 6), .mv (.tmp 0), none⟩ ::
⟨(some 7), .cvt .u64 (.tmp 6), none⟩ ::
⟨(some 8), .bin .add (.tmp 7) (.const (.int .u64 9223372036854775808)), none⟩ ::
⟨(some 3), .mv (.tmp 8), none⟩ ::
[]))
(.seq
(.plain (
⟨(some 9), .mks 1 1 [(.v (.int .u8 0))] (.const (.int .i64 8)) (.const (.int .i64 8)), none⟩ ::
⟨(some 4), .mv (.tmp 9), none⟩ ::
[]))
(.seq
(.seq
(.plain (
⟨(some 5), .mv (.const (.int .i64 7)), none⟩ ::
[]))
(.block 0
(.loop
(.seq
(.seq
(.plain (
⟨(some 10), .mv (.tmp 5), none⟩ ::
⟨(some 11), .bin .geq (.tmp 10) (.const (.int .i64 0)), none⟩ ::
[]))
(.cond (.tmp 11)
.skip
(.exit 0)))
(.seq
(.block 1
(.seq
(.plain (
⟨(some 14), .mv (.tmp 4), none⟩ ::
⟨(some 15), .mv (.tmp 5), none⟩ ::
⟨(some 16), .mv (.tmp 3), none⟩ ::
⟨(some 17), .bin .rem (.tmp 16) (.const (.int .u64 256)), none⟩ ::
⟨(some 18), .cvt .u8 (.tmp 17), none⟩ ::
⟨(some 19), .iaS 1 (.tmp 14) (.tmp 15), none⟩ ::
⟨none, .store 1 (.tmp 19) (.tmp 18), none⟩ ::
[]))
(.plain (
⟨(some 20), .mv (.tmp 3), none⟩ ::
⟨(some 21), .bin .quo (.tmp 20) (.const (.int .u64 256)), none⟩ ::
⟨(some 3), .mv (.tmp 21), none⟩ ::
[]))))
(.plain (
⟨(some 12), .mv (.tmp 5), none⟩ ::
⟨(some 13), .bin .sub (.tmp 12) (.const (.int .i64 1)), none⟩ ::
⟨(some 5), .mv (.tmp 13), none⟩ ::
[])))))))
(.seq
(.plain (
⟨(some 22), .mv (.tmp 4), none⟩ ::
⟨(some 2), .mv (.tmp 22), none⟩ ::
[]))
.ret)))))
theorem prep50 : prepFunc Try.prog 50 = some F50 := by kernel_rfl

-- indenture/indentureref02.Truth
def F51 : AFunc where
  ntmps := 6
  nparams := 1
  results := [(2, none)]
  code :=
(.seq
(.plain (
⟨(some 2), .mv (.const (.slice none 0 0)), none⟩ ::
[]))
(.seq
(.seq
(.plain (
⟨(some 3), .mv (.tmp 0), none⟩ ::
[]))
(.cond (.tmp 3)
(.seq
(.plain (
⟨(some 4), .bsl 1 [(.const (.int .u8 1))], none⟩ ::
⟨(some 2), .mv (.tmp 4), none⟩ ::
[]))
.ret)
.skip))
(.seq
(.plain (
⟨(some 5), .bsl 1 [(.const (.int .u8 0))], none⟩ ::
⟨(some 2), .mv (.tmp 5), none⟩ ::
[]))
.ret)))
theorem prep51 : prepFunc Try.prog 51 = some F51 := by kernel_rfl

-- indenture/sha.Hash
def F52 : AFunc where
  ntmps := 9
  nparams := 2
  results := [(4, (some (true, 32)))]
  code :=
(.seq
(.plain (
⟨(some 4), .alloc 24 (List.replicate 32 (.v (.int .u8 0))), none⟩ ::
[]))
(.seq
(.plain (
⟨(some 5), .mv (.tmp 0), none⟩ ::
⟨(some 6), .mv (.tmp 1), none⟩ ::
⟨(some 7), .callF 75 [(.tmp 5), (.tmp 6)], none⟩ ::
⟨(some 8), .callF 34 [(.tmp 7)], none⟩ ::
⟨none, .store 32 (.tmp 4) (.tmp 8), none⟩ ::
[]))
.ret))
theorem prep52 : prepFunc Try.prog 52 = some F52 := by kernel_rfl

-- indenture/history.leafText
def F53 : AFunc where
  ntmps := 6
  nparams := 1
  results := [(2, none)]
  code :=
(.seq
(.plain (
⟨(some 1), .boxR 24 (.tmp 0), none⟩ ::
⟨(some 2), .mv (.const (.slice none 0 0)), none⟩ ::
[]))
(.seq
(.plain (
⟨(some 3), .slcR 1 32 (.tmp 1) none none, none⟩ ::
⟨(some 4), .bsl 1 [(.tmp 3)], none⟩ ::
⟨(some 5), .callF 75 [(.const (.int .u8 76)), (.tmp 4)], none⟩ ::
⟨(some 2), .mv (.tmp 5), none⟩ ::
[]))
.ret))
theorem prep53 : prepFunc Try.prog 53 = some F53 := by kernel_rfl

-- indenture/history.half
def F54 : AFunc where
  ntmps := 9
  nparams := 1
  results := [(2, none)]
  code :=
(.seq
(.plain (
⟨(some 2), .mv (.const (.int .i64 0)), none⟩ ::
[]))
(.seq
(.plain (
⟨(some 3), .mv (.tmp 0), none⟩ ::
⟨(some 4), .bin .sub (.tmp 3) (.const (.int .i64 1)), none⟩ ::
⟨(some 5), .cvt .u64 (.tmp 4), none⟩ ::
⟨(some 6), .callF 76 [(.tmp 5)], none⟩ ::
⟨(some 7), .bin .sub (.tmp 6) (.const (.int .i64 1)), none⟩ ::
⟨(some 8), .bin .shl (.const (.int .i64 1)) (.tmp 7), none⟩ ::
⟨(some 2), .mv (.tmp 8), none⟩ ::
[]))
.ret))
theorem prep54 : prepFunc Try.prog 54 = some F54 := by kernel_rfl

-- indenture/history.nodeText
def F55 : AFunc where
  ntmps := 9
  nparams := 2
  results := [(4, none)]
  code :=
(.seq
(.plain (
⟨(some 2), .boxR 24 (.tmp 0), none⟩ ::
⟨(some 3), .boxR 24 (.tmp 1), none⟩ ::
⟨(some 4), .mv (.const (.slice none 0 0)), none⟩ ::
[]))
(.seq
(.draw (
⟨(some 5), .slcR 1 32 (.tmp 2) none none, none⟩ ::
⟨(some 6), .slcR 1 32 (.tmp 3) none none, none⟩ ::
⟨(some 7), .bsl 1 [(.tmp 5), (.tmp 6)], none⟩ ::
⟨(some 8), .callF 75 [(.const (.int .u8 78)), (.tmp 7)], none⟩ ::
⟨(some 4), .mv (.tmp 8), none⟩ ::
[])
(⟨0, [], []⟩ :: ⟨1, [], []⟩ :: ⟨2, [], []⟩ :: ⟨3, [], []⟩ :: ⟨4, [], []⟩ :: []))
.ret))
theorem prep55 : prepFunc Try.prog 55 = some F55 := by kernel_rfl

-- indenture/block.DigestPreimage
def F56 : AFunc where
  ntmps := 18
  nparams := 1
  results := [(2, none)]
  code :=
(.seq
(.plain (
⟨(some 1), .boxR 26 (.tmp 0), none⟩ ::
⟨(some 2), .mv (.const (.slice none 0 0)), none⟩ ::
[]))
(.seq
(.plain (
⟨(some 4), .bld [(.sl [] .nil), (.v (.int .i64 0))] [], none⟩ ::
⟨(some 5), .box 87 (.tmp 4), none⟩ ::
⟨(some 3), .mv (.tmp 5), none⟩ ::
[]))
(.seq
(.plain (
⟨(some 6), .mv (.tmp 3), none⟩ ::
⟨(some 7), .fa 0 (.tmp 1), none⟩ ::
⟨(some 8), .load false 1 (.tmp 7), none⟩ ::
⟨(some 9), .callF 46 [(.tmp 6), (.tmp 8)], none⟩ ::
[]))
(.seq
(.draw (
⟨(some 10), .mv (.tmp 3), none⟩ ::
⟨(some 11), .callF 48 [(.tmp 10)], none⟩ ::
⟨(some 12), .fa 1 (.tmp 1), none⟩ ::
⟨(some 13), .slcR 1 32 (.tmp 12) none none, none⟩ ::
⟨(some 14), .fa 33 (.tmp 1), none⟩ ::
⟨(some 15), .slcR 1 32 (.tmp 14) none none, none⟩ ::
⟨(some 16), .bsl 1 [(.tmp 11), (.tmp 13), (.tmp 15)], none⟩ ::
⟨(some 17), .callF 75 [(.const (.int .u8 68)), (.tmp 16)], none⟩ ::
⟨(some 2), .mv (.tmp 17), none⟩ ::
[])
(⟨0, [], []⟩ :: ⟨2, [], []⟩ :: ⟨3, [], []⟩ :: ⟨4, [], []⟩ :: ⟨5, [], []⟩ :: ⟨1, [], [3, 5]⟩ :: ⟨6, [], []⟩ :: ⟨7, [], []⟩ :: ⟨8, [], []⟩ :: []))
.ret))))
theorem prep56 : prepFunc Try.prog 56 = some F56 := by kernel_rfl

-- (*indenture/history.proof).up
def F57 : AFunc where
  ntmps := 55
  nparams := 4
  results := [(8, (some (true, 32)))]
  code :=
(.seq
(.plain (
⟨(some 7), .box 24 (.tmp 3), none⟩ ::
⟨(some 8), .alloc 24 (List.replicate 32 (.v (.int .u8 0))), none⟩ ::
[]))
(.seq
(.seq
(.plain (
⟨(some 13), .mv (.tmp 1), none⟩ ::
⟨(some 14), .bin .eql (.tmp 13) (.const (.int .i64 1)), none⟩ ::
[]))
(.cond (.tmp 14)
(.seq
(.plain (
⟨(some 15), .mv (.tmp 0), none⟩ ::
⟨(some 16), .load true 32 (.tmp 7), none⟩ ::
⟨(some 17), .callF 53 [(.tmp 16)], none⟩ ::
⟨(some 18), .callF 62 [(.tmp 15), (.tmp 17)], none⟩ ::
⟨none, .store 32 (.tmp 8) (.tmp 18), none⟩ ::
[]))
.ret)
.skip))
(.seq
(.plain (
⟨(some 19), .mv (.tmp 1), none⟩ ::
⟨(some 20), .callF 54 [(.tmp 19)], none⟩ ::
⟨(some 9), .mv (.tmp 20), none⟩ ::
[]))
(.seq
(.plain (
⟨(some 21), .mv (.tmp 0), none⟩ ::
⟨(some 22), .callF 61 [(.tmp 21)], none⟩ ::
⟨(some 10), .alloc 24 (List.replicate 32 (.v (.int .u8 0))), none⟩ ::
⟨none, .store 32 (.tmp 10) (.tmp 22), none⟩ ::
[]))
(.seq
(.seq
(.plain (
⟨(some 23), .mv (.tmp 0), none⟩ ::
⟨(some 24), .nilc (.tmp 23), none⟩ ::
⟨(some 25), .fa 2 (.tmp 24), none⟩ ::
⟨(some 26), .load false 1 (.tmp 25), none⟩ ::
[]))
(.cond (.tmp 26)
(.seq
(.plain (
⟨(some 27), .bld (List.replicate 32 (.v (.int .u8 0))) [], none⟩ ::
⟨none, .store 32 (.tmp 8) (.tmp 27), none⟩ ::
[]))
.ret)
.skip))
(.seq
(.seq
(.plain (
⟨(some 28), .mv (.tmp 2), none⟩ ::
⟨(some 29), .mv (.tmp 9), none⟩ ::
⟨(some 30), .bin .lss (.tmp 28) (.tmp 29), none⟩ ::
[]))
(.cond (.tmp 30)
(.seq
(.plain (
⟨(some 31), .mv (.tmp 0), none⟩ ::
⟨(some 32), .mv (.tmp 9), none⟩ ::
⟨(some 33), .mv (.tmp 2), none⟩ ::
⟨(some 34), .load true 32 (.tmp 7), none⟩ ::
⟨(some 35), .callF 57 [(.tmp 31), (.tmp 32), (.tmp 33), (.tmp 34)], none⟩ ::
⟨(some 11), .alloc 24 (List.replicate 32 (.v (.int .u8 0))), none⟩ ::
⟨none, .store 32 (.tmp 11) (.tmp 35), none⟩ ::
[]))
(.seq
(.plain (
⟨(some 36), .mv (.tmp 0), none⟩ ::
⟨(some 37), .load true 32 (.tmp 11), none⟩ ::
⟨(some 38), .load true 32 (.tmp 10), none⟩ ::
⟨(some 39), .callF 55 [(.tmp 37), (.tmp 38)], none⟩ ::
⟨(some 40), .callF 62 [(.tmp 36), (.tmp 39)], none⟩ ::
⟨none, .store 32 (.tmp 8) (.tmp 40), none⟩ ::
[]))
.ret))
.skip))
(.seq
(.plain (
⟨(some 41), .mv (.tmp 0), none⟩ ::
⟨(some 42), .mv (.tmp 1), none⟩ ::
⟨(some 43), .mv (.tmp 9), none⟩ ::
⟨(some 44), .bin .sub (.tmp 42) (.tmp 43), none⟩ ::
⟨(some 45), .mv (.tmp 2), none⟩ ::
⟨(some 46), .mv (.tmp 9), none⟩ ::
⟨(some 47), .bin .sub (.tmp 45) (.tmp 46), none⟩ ::
⟨(some 48), .load true 32 (.tmp 7), none⟩ ::
⟨(some 49), .callF 57 [(.tmp 41), (.tmp 44), (.tmp 47), (.tmp 48)], none⟩ ::
⟨(some 12), .alloc 24 (List.replicate 32 (.v (.int .u8 0))), none⟩ ::
⟨none, .store 32 (.tmp 12) (.tmp 49), none⟩ ::
[]))
(.seq
(.plain (
⟨(some 50), .mv (.tmp 0), none⟩ ::
⟨(some 51), .load true 32 (.tmp 10), none⟩ ::
⟨(some 52), .load true 32 (.tmp 12), none⟩ ::
⟨(some 53), .callF 55 [(.tmp 51), (.tmp 52)], none⟩ ::
⟨(some 54), .callF 62 [(.tmp 50), (.tmp 53)], none⟩ ::
⟨none, .store 32 (.tmp 8) (.tmp 54), none⟩ ::
[]))
.ret))))))))
theorem prep57 : prepFunc Try.prog 57 = some F57 := by kernel_rfl

-- indenture/sha.New
def F58 : AFunc where
  ntmps := 4
  nparams := 0
  results := [(0, none)]
  code :=
(.seq
(.plain (
⟨(some 0), .mv (.const (.pointer none)), none⟩ ::
[]))
(.seq
(.plain (
⟨(some 1), .callF 77 [], none⟩ ::
⟨(some 2), .bld (List.replicate 8 (.v (.int .u32 0)) ++ [(.sl [] .nil)] ++ [(.v (.int .u64 0))]) [(0, 8, (.tmp 1))], none⟩ ::
⟨(some 3), .box 121 (.tmp 2), none⟩ ::
⟨(some 0), .mv (.tmp 3), none⟩ ::
[]))
.ret))
theorem prep58 : prepFunc Try.prog 58 = some F58 := by kernel_rfl

-- (*indenture/sha.State).Write
def F59 : AFunc where
  ntmps := 51
  nparams := 2
  results := []
  code :=
(.seq
(.seq
(.plain (
⟨(some 5), .mv (.tmp 0), none⟩ ::
⟨(some 6), .nilc (.tmp 5), none⟩ ::
⟨(some 7), .fa 9 (.tmp 6), none⟩ ::
⟨(some 8), .load false 1 (.tmp 7), none⟩ ::
⟨(some 9), .bin .eql (.tmp 8) (.const (.int .u64 0)), none⟩ ::
[]))
(.cond (.tmp 9)
(.plain (
⟨(some 10), .mv (.tmp 0), none⟩ ::
⟨(some 11), .callF 77 [], none⟩ ::
⟨(some 12), .nilc (.tmp 10), none⟩ ::
⟨(some 13), .fa 0 (.tmp 12), none⟩ ::
⟨none, .store 8 (.tmp 13) (.tmp 11), none⟩ ::
[]))
.skip))
(.seq
(.plain (
⟨(some 14), .mv (.tmp 0), none⟩ ::
⟨(some 15), .nilc (.tmp 14), none⟩ ::
⟨(some 16), .fa 9 (.tmp 15), none⟩ ::
⟨(some 17), .load false 1 (.tmp 16), none⟩ ::
⟨(some 18), .mv (.tmp 1), none⟩ ::
⟨(some 19), .len (.tmp 18), none⟩ ::
⟨(some 20), .cvt .u64 (.tmp 19), none⟩ ::
⟨(some 21), .bin .add (.tmp 17) (.tmp 20), none⟩ ::
⟨(some 22), .nilc (.tmp 14), none⟩ ::
⟨(some 23), .fa 9 (.tmp 22), none⟩ ::
⟨none, .store 1 (.tmp 23) (.tmp 21), none⟩ ::
[]))
(.seq
(.plain (
⟨(some 24), .bsl 1 [], none⟩ ::
⟨(some 25), .mv (.tmp 0), none⟩ ::
⟨(some 26), .nilc (.tmp 25), none⟩ ::
⟨(some 27), .fa 8 (.tmp 26), none⟩ ::
⟨(some 28), .load false 1 (.tmp 27), none⟩ ::
⟨(some 29), .app 1 1 (.tmp 24) (.tmp 28), none⟩ ::
⟨(some 30), .mv (.tmp 1), none⟩ ::
⟨(some 31), .app 1 1 (.tmp 29) (.tmp 30), none⟩ ::
⟨(some 4), .mv (.tmp 31), none⟩ ::
[]))
(.seq
(.block 0
(.loop
(.seq
(.seq
(.plain (
⟨(some 32), .mv (.tmp 4), none⟩ ::
⟨(some 33), .len (.tmp 32), none⟩ ::
⟨(some 34), .bin .geq (.tmp 33) (.const (.int .i64 64)), none⟩ ::
[]))
(.cond (.tmp 34)
.skip
(.exit 0)))
(.block 1
(.seq
(.draw (
⟨(some 35), .mv (.tmp 0), none⟩ ::
⟨(some 36), .mv (.tmp 0), none⟩ ::
⟨(some 37), .nilc (.tmp 36), none⟩ ::
⟨(some 38), .fa 0 (.tmp 37), none⟩ ::
⟨(some 39), .load true 8 (.tmp 38), none⟩ ::
⟨(some 40), .mv (.tmp 4), none⟩ ::
⟨(some 41), .slc 1 (.tmp 40) none (some (.const (.int .i64 64))), none⟩ ::
⟨(some 42), .callF 78 [(.tmp 39), (.tmp 41)], none⟩ ::
⟨(some 43), .nilc (.tmp 35), none⟩ ::
⟨(some 44), .fa 0 (.tmp 43), none⟩ ::
⟨none, .store 8 (.tmp 44) (.tmp 42), none⟩ ::
[])
(⟨0, [], []⟩ :: ⟨1, [], []⟩ :: ⟨2, [], []⟩ :: ⟨3, [], []⟩ :: ⟨4, [], []⟩ :: ⟨5, [], []⟩ :: ⟨6, [], []⟩ :: ⟨7, [], []⟩ :: ⟨8, [], []⟩ :: ⟨9, [], []⟩ :: ⟨10, [], []⟩ :: []))
(.plain (
⟨(some 45), .mv (.tmp 4), none⟩ ::
⟨(some 46), .slc 1 (.tmp 45) (some (.const (.int .i64 64))) none, none⟩ ::
⟨(some 4), .mv (.tmp 46), none⟩ ::
[])))))))
(.plain (
⟨(some 47), .mv (.tmp 0), none⟩ ::
⟨(some 48), .mv (.tmp 4), none⟩ ::
⟨(some 49), .nilc (.tmp 47), none⟩ ::
⟨(some 50), .fa 8 (.tmp 49), none⟩ ::
⟨none, .store 1 (.tmp 50) (.tmp 48), none⟩ ::
[]))))))
theorem prep59 : prepFunc Try.prog 59 = some F59 := by kernel_rfl

-- (*indenture/sha.State).Done
def F60 : AFunc where
  ntmps := 83
  nparams := 1
  results := [(2, (some (true, 32)))]
  code :=
(.seq
(.plain (
⟨(some 2), .alloc 24 (List.replicate 32 (.v (.int .u8 0))), none⟩ ::
[]))
(.seq
(.plain (
⟨(some 8), .mv (.tmp 0), none⟩ ::
⟨(some 9), .nilc (.tmp 8), none⟩ ::
⟨(some 10), .fa 0 (.tmp 9), none⟩ ::
⟨(some 11), .load true 8 (.tmp 10), none⟩ ::
⟨(some 3), .alloc 118 (List.replicate 8 (.v (.int .u32 0))), none⟩ ::
⟨none, .store 8 (.tmp 3) (.tmp 11), none⟩ ::
[]))
(.seq
(.seq
(.plain (
⟨(some 12), .mv (.tmp 0), none⟩ ::
⟨(some 13), .nilc (.tmp 12), none⟩ ::
⟨(some 14), .fa 9 (.tmp 13), none⟩ ::
⟨(some 15), .load false 1 (.tmp 14), none⟩ ::
⟨(some 16), .bin .eql (.tmp 15) (.const (.int .u64 0)), none⟩ ::
[]))
(.cond (.tmp 16)
(.plain (
⟨(some 17), .callF 77 [], none⟩ ::
⟨none, .store 8 (.tmp 3) (.tmp 17), none⟩ ::
[]))
.skip))
(.seq
(.plain (
⟨(some 18), .bsl 1 [], none⟩ ::
⟨(some 19), .mv (.tmp 0), none⟩ ::
⟨(some 20), .nilc (.tmp 19), none⟩ ::
⟨(some 21), .fa 8 (.tmp 20), none⟩ ::
⟨(some 22), .load false 1 (.tmp 21), none⟩ ::
⟨(some 23), .app 1 1 (.tmp 18) (.tmp 22), none⟩ ::
⟨(some 24), .bsl 1 [(.const (.int .u8 128))], none⟩ ::
⟨(some 25), .app 1 1 (.tmp 23) (.tmp 24), none⟩ ::
⟨(some 4), .mv (.tmp 25), none⟩ ::
[]))
(.seq
(.block 0
(.loop
(.seq
(.seq
(.plain (
⟨(some 26), .mv (.tmp 4), none⟩ ::
⟨(some 27), .len (.tmp 26), none⟩ ::
⟨(some 28), .bin .rem (.tmp 27) (.const (.int .i64 64)), none⟩ ::
⟨(some 29), .bin .neq (.tmp 28) (.const (.int .i64 56)), none⟩ ::
[]))
(.cond (.tmp 29)
.skip
(.exit 0)))
(.block 1
(.plain (
⟨(some 30), .mv (.tmp 4), none⟩ ::
⟨(some 31), .bsl 1 [(.const (.int .u8 0))], none⟩ ::
⟨(some 32), .app 1 1 (.tmp 30) (.tmp 31), none⟩ ::
⟨(some 4), .mv (.tmp 32), none⟩ ::
[]))))))
(.seq
(.plain (
⟨(some 33), .mv (.tmp 4), none⟩ ::
⟨(some 34), .mv (.tmp 0), none⟩ ::
⟨(some 35), .nilc (.tmp 34), none⟩ ::
⟨(some 36), .fa 9 (.tmp 35), none⟩ ::
⟨(some 37), .load false 1 (.tmp 36), none⟩ ::
⟨(some 38), .bin .mul (.const (.int .u64 8)) (.tmp 37), none⟩ ::
⟨(some 39), .callF 79 [(.tmp 38)], none⟩ ::
⟨(some 40), .app 1 1 (.tmp 33) (.tmp 39), none⟩ ::
⟨(some 4), .mv (.tmp 40), none⟩ ::
[]))
(.seq
(.block 2
(.loop
(.seq
(.seq
(.plain (
⟨(some 41), .mv (.tmp 4), none⟩ ::
⟨(some 42), .len (.tmp 41), none⟩ ::
⟨(some 43), .bin .gtr (.tmp 42) (.const (.int .i64 0)), none⟩ ::
[]))
(.cond (.tmp 43)
.skip
(.exit 2)))
(.seq
(.block 3
(.draw (
⟨(some 46), .load true 8 (.tmp 3), none⟩ ::
⟨(some 47), .mv (.tmp 4), none⟩ ::
⟨(some 48), .slc 1 (.tmp 47) none (some (.const (.int .i64 64))), none⟩ ::
⟨(some 49), .callF 78 [(.tmp 46), (.tmp 48)], none⟩ ::
⟨none, .store 8 (.tmp 3) (.tmp 49), none⟩ ::
[])
(⟨0, [], []⟩ :: ⟨1, [], []⟩ :: ⟨2, [], []⟩ :: ⟨3, [], []⟩ :: ⟨4, [], []⟩ :: [])))
(.plain (
⟨(some 44), .mv (.tmp 4), none⟩ ::
⟨(some 45), .slc 1 (.tmp 44) (some (.const (.int .i64 64))) none, none⟩ ::
⟨(some 4), .mv (.tmp 45), none⟩ ::
[]))))))
(.seq
(.plain (
⟨(some 5), .alloc 24 (List.replicate 32 (.v (.int .u8 0))), none⟩ ::
[]))
(.seq
(.seq
(.plain (
⟨(some 50), .load true 8 (.tmp 3), none⟩ ::
⟨(some 51), .mv (.const (.int .i64 0)), none⟩ ::
[]))
(.block 4
(.loop
(.seq
(.plain (
⟨(some 52), .bin .lss (.tmp 51) (.const (.int .i64 8)), none⟩ ::
[]))
(.seq
(.cond (.tmp 52)
.skip
(.exit 4))
(.seq
(.block 5
(.seq
(.plain (
⟨(some 53), .mv (.tmp 51), none⟩ ::
⟨(some 54), .idxA false 1 8 (.tmp 50) (.tmp 51), none⟩ ::
⟨(some 6), .mv (.tmp 53), none⟩ ::
⟨(some 7), .mv (.tmp 54), none⟩ ::
[]))
(.plain (
⟨(some 55), .mv (.tmp 6), none⟩ ::
⟨(some 56), .bin .mul (.const (.int .i64 4)) (.tmp 55), none⟩ ::
⟨(some 57), .mv (.tmp 6), none⟩ ::
⟨(some 58), .bin .mul (.const (.int .i64 4)) (.tmp 57), none⟩ ::
⟨(some 59), .bin .add (.tmp 58) (.const (.int .i64 1)), none⟩ ::
⟨(some 60), .mv (.tmp 6), none⟩ ::
⟨(some 61), .bin .mul (.const (.int .i64 4)) (.tmp 60), none⟩ ::
⟨(some 62), .bin .add (.tmp 61) (.const (.int .i64 2)), none⟩ ::
⟨(some 63), .mv (.tmp 6), none⟩ ::
⟨(some 64), .bin .mul (.const (.int .i64 4)) (.tmp 63), none⟩ ::
⟨(some 65), .bin .add (.tmp 64) (.const (.int .i64 3)), none⟩ ::
⟨(some 66), .mv (.tmp 7), none⟩ ::
⟨(some 67), .bin .shr (.tmp 66) (.const (.int .u64 24)), none⟩ ::
⟨(some 68), .cvt .u8 (.tmp 67), none⟩ ::
⟨(some 69), .mv (.tmp 7), none⟩ ::
⟨(some 70), .bin .shr (.tmp 69) (.const (.int .u64 16)), none⟩ ::
⟨(some 71), .cvt .u8 (.tmp 70), none⟩ ::
⟨(some 72), .mv (.tmp 7), none⟩ ::
⟨(some 73), .bin .shr (.tmp 72) (.const (.int .u64 8)), none⟩ ::
⟨(some 74), .cvt .u8 (.tmp 73), none⟩ ::
⟨(some 75), .mv (.tmp 7), none⟩ ::
⟨(some 76), .cvt .u8 (.tmp 75), none⟩ ::
⟨(some 77), .iaA 1 32 (.tmp 5) (.tmp 56), none⟩ ::
⟨none, .store 1 (.tmp 77) (.tmp 68), none⟩ ::
⟨(some 78), .iaA 1 32 (.tmp 5) (.tmp 59), none⟩ ::
⟨none, .store 1 (.tmp 78) (.tmp 71), none⟩ ::
⟨(some 79), .iaA 1 32 (.tmp 5) (.tmp 62), none⟩ ::
⟨none, .store 1 (.tmp 79) (.tmp 74), none⟩ ::
⟨(some 80), .iaA 1 32 (.tmp 5) (.tmp 65), none⟩ ::
⟨none, .store 1 (.tmp 80) (.tmp 76), none⟩ ::
[]))))
(.plain (
⟨(some 81), .bin .add (.tmp 51) (.const (.int .i64 1)), none⟩ ::
⟨(some 51), .mv (.tmp 81), none⟩ ::
[]))))))))
(.seq
(.plain (
⟨(some 82), .load true 32 (.tmp 5), none⟩ ::
⟨none, .store 32 (.tmp 2) (.tmp 82), none⟩ ::
[]))
.ret))))))))))
theorem prep60 : prepFunc Try.prog 60 = some F60 := by kernel_rfl

-- (*indenture/history.proof).take
def F61 : AFunc where
  ntmps := 41
  nparams := 1
  results := [(2, (some (true, 32)))]
  code :=
(.seq
(.plain (
⟨(some 2), .alloc 24 (List.replicate 32 (.v (.int .u8 0))), none⟩ ::
[]))
(.seq
(.seq
(.plain (
⟨(some 4), .mv (.tmp 0), none⟩ ::
⟨(some 5), .nilc (.tmp 4), none⟩ ::
⟨(some 6), .fa 0 (.tmp 5), none⟩ ::
⟨(some 7), .load false 1 (.tmp 6), none⟩ ::
⟨(some 8), .len (.tmp 7), none⟩ ::
⟨(some 9), .bin .eql (.tmp 8) (.const (.int .i64 0)), none⟩ ::
[]))
(.cond (.tmp 9)
(.seq
(.plain (
⟨(some 10), .mv (.tmp 0), none⟩ ::
⟨(some 11), .nilc (.tmp 10), none⟩ ::
⟨(some 12), .fa 2 (.tmp 11), none⟩ ::
⟨none, .store 1 (.tmp 12) (.const (.bool true)), none⟩ ::
[]))
(.seq
(.plain (
⟨(some 13), .bld (List.replicate 32 (.v (.int .u8 0))) [], none⟩ ::
⟨none, .store 32 (.tmp 2) (.tmp 13), none⟩ ::
[]))
.ret))
.skip))
(.seq
(.draw (
⟨(some 14), .mv (.tmp 0), none⟩ ::
⟨(some 15), .nilc (.tmp 14), none⟩ ::
⟨(some 16), .fa 0 (.tmp 15), none⟩ ::
⟨(some 17), .load false 1 (.tmp 16), none⟩ ::
⟨(some 18), .mv (.tmp 0), none⟩ ::
⟨(some 19), .nilc (.tmp 18), none⟩ ::
⟨(some 20), .fa 0 (.tmp 19), none⟩ ::
⟨(some 21), .load false 1 (.tmp 20), none⟩ ::
⟨(some 22), .len (.tmp 21), none⟩ ::
⟨(some 23), .bin .sub (.tmp 22) (.const (.int .i64 1)), none⟩ ::
⟨(some 24), .iaS 32 (.tmp 17) (.tmp 23), none⟩ ::
⟨(some 25), .load true 32 (.tmp 24), none⟩ ::
⟨(some 3), .alloc 24 (List.replicate 32 (.v (.int .u8 0))), none⟩ ::
⟨none, .store 32 (.tmp 3) (.tmp 25), none⟩ ::
[])
(⟨0, [], []⟩ :: ⟨1, [], []⟩ :: ⟨2, [], []⟩ :: ⟨3, [], []⟩ :: ⟨4, [], []⟩ :: ⟨5, [], []⟩ :: ⟨6, [], []⟩ :: ⟨7, [], []⟩ :: ⟨8, [], []⟩ :: ⟨9, [], []⟩ :: ⟨10, [], []⟩ :: ⟨11, [], []⟩ :: ⟨12, [], []⟩ :: ⟨13, [], []⟩ :: []))
(.seq
(.draw (
⟨(some 26), .mv (.tmp 0), none⟩ ::
⟨(some 27), .mv (.tmp 0), none⟩ ::
⟨(some 28), .nilc (.tmp 27), none⟩ ::
⟨(some 29), .fa 0 (.tmp 28), none⟩ ::
⟨(some 30), .load false 1 (.tmp 29), none⟩ ::
⟨(some 31), .mv (.tmp 0), none⟩ ::
⟨(some 32), .nilc (.tmp 31), none⟩ ::
⟨(some 33), .fa 0 (.tmp 32), none⟩ ::
⟨(some 34), .load false 1 (.tmp 33), none⟩ ::
⟨(some 35), .len (.tmp 34), none⟩ ::
⟨(some 36), .bin .sub (.tmp 35) (.const (.int .i64 1)), none⟩ ::
⟨(some 37), .slc 32 (.tmp 30) none (some (.tmp 36)), none⟩ ::
⟨(some 38), .nilc (.tmp 26), none⟩ ::
⟨(some 39), .fa 0 (.tmp 38), none⟩ ::
⟨none, .store 1 (.tmp 39) (.tmp 37), none⟩ ::
[])
(⟨0, [], []⟩ :: ⟨1, [], []⟩ :: ⟨2, [], []⟩ :: ⟨3, [], []⟩ :: ⟨4, [], []⟩ :: ⟨5, [], []⟩ :: ⟨6, [], []⟩ :: ⟨7, [], []⟩ :: ⟨8, [], []⟩ :: ⟨9, [], []⟩ :: ⟨10, [], []⟩ :: ⟨11, [], []⟩ :: ⟨12, [], []⟩ :: ⟨13, [], []⟩ :: ⟨14, [], []⟩ :: []))
(.seq
(.plain (
⟨(some 40), .load true 32 (.tmp 3), none⟩ ::
⟨none, .store 32 (.tmp 2) (.tmp 40), none⟩ ::
[]))
.ret)))))
theorem prep61 : prepFunc Try.prog 61 = some F61 := by kernel_rfl

-- (*indenture/history.proof).hash
def F62 : AFunc where
  ntmps := 17
  nparams := 2
  results := [(4, (some (true, 32)))]
  code :=
(.seq
(.plain (
⟨(some 4), .alloc 24 (List.replicate 32 (.v (.int .u8 0))), none⟩ ::
[]))
(.seq
(.plain (
⟨(some 5), .mv (.tmp 0), none⟩ ::
⟨(some 6), .mv (.tmp 0), none⟩ ::
⟨(some 7), .nilc (.tmp 6), none⟩ ::
⟨(some 8), .fa 1 (.tmp 7), none⟩ ::
⟨(some 9), .load false 1 (.tmp 8), none⟩ ::
⟨(some 10), .mv (.tmp 1), none⟩ ::
⟨(some 11), .bsl 1 [(.tmp 10)], none⟩ ::
⟨(some 12), .app 1 24 (.tmp 9) (.tmp 11), none⟩ ::
⟨(some 13), .nilc (.tmp 5), none⟩ ::
⟨(some 14), .fa 1 (.tmp 13), none⟩ ::
⟨none, .store 1 (.tmp 14) (.tmp 12), none⟩ ::
[]))
(.seq
(.plain (
⟨(some 15), .mv (.tmp 1), none⟩ ::
⟨(some 16), .callF 34 [(.tmp 15)], none⟩ ::
⟨none, .store 32 (.tmp 4) (.tmp 16), none⟩ ::
[]))
.ret)))
theorem prep62 : prepFunc Try.prog 62 = some F62 := by kernel_rfl

-- indenture/indentureref01.Sum
def F63 : AFunc where
  ntmps := 6
  nparams := 1
  results := [(2, (some (true, 32)))]
  code :=
(.seq
(.plain (
⟨(some 2), .alloc 24 (List.replicate 32 (.v (.int .u8 0))), none⟩ ::
[]))
(.seq
(.plain (
⟨(some 3), .mv (.tmp 0), none⟩ ::
⟨(some 4), .callF 81 [], none⟩ ::
⟨(some 5), .callF 80 [(.tmp 3), (.tmp 4)], none⟩ ::
⟨none, .store 32 (.tmp 2) (.tmp 5), none⟩ ::
[]))
.ret))
theorem prep63 : prepFunc Try.prog 63 = some F63 := by kernel_rfl

-- indenture/indentureref22.Preimage
def F64 : AFunc where
  ntmps := 16
  nparams := 1
  results := [(2, none)]
  code :=
(.seq
(.plain (
⟨(some 1), .boxR 26 (.tmp 0), none⟩ ::
⟨(some 2), .mv (.const (.slice none 0 0)), none⟩ ::
[]))
(.seq
(.draw (
⟨(some 3), .fa 0 (.tmp 1), none⟩ ::
⟨(some 4), .load false 1 (.tmp 3), none⟩ ::
⟨(some 5), .callF 50 [(.tmp 4)], none⟩ ::
⟨(some 6), .bsl 1 [], none⟩ ::
⟨(some 7), .fa 1 (.tmp 1), none⟩ ::
⟨(some 8), .slcR 1 32 (.tmp 7) none none, none⟩ ::
⟨(some 9), .app 1 1 (.tmp 6) (.tmp 8), none⟩ ::
⟨(some 10), .bsl 1 [], none⟩ ::
⟨(some 11), .fa 33 (.tmp 1), none⟩ ::
⟨(some 12), .slcR 1 32 (.tmp 11) none none, none⟩ ::
⟨(some 13), .app 1 1 (.tmp 10) (.tmp 12), none⟩ ::
⟨(some 14), .bsl 1 [(.tmp 5), (.tmp 9), (.tmp 13)], none⟩ ::
⟨(some 15), .callF 82 [(.const (.int .u8 68)), (.tmp 14)], none⟩ ::
⟨(some 2), .mv (.tmp 15), none⟩ ::
[])
(⟨0, [], []⟩ :: ⟨1, [], []⟩ :: ⟨4, [], []⟩ :: ⟨5, [], []⟩ :: ⟨8, [], []⟩ :: ⟨9, [], []⟩ :: ⟨2, [3, 7], [5, 9]⟩ :: ⟨3, [7], []⟩ :: ⟨6, [7], [9]⟩ :: ⟨7, [], []⟩ :: ⟨10, [], []⟩ :: ⟨11, [], []⟩ :: ⟨12, [], []⟩ :: ⟨13, [], []⟩ :: []))
.ret))
theorem prep64 : prepFunc Try.prog 64 = some F64 := by kernel_rfl

-- indenture/indentureref18.Root
def F65 : AFunc where
  ntmps := 30
  nparams := 1
  results := [(2, (some (true, 32)))]
  code :=
(.seq
(.plain (
⟨(some 2), .alloc 24 (List.replicate 32 (.v (.int .u8 0))), none⟩ ::
[]))
(.seq
(.seq
(.plain (
⟨(some 4), .mv (.tmp 0), none⟩ ::
⟨(some 5), .len (.tmp 4), none⟩ ::
⟨(some 6), .bin .eql (.tmp 5) (.const (.int .i64 0)), none⟩ ::
[]))
(.cond (.tmp 6)
(.seq
(.plain (
⟨(some 7), .callF 82 [(.const (.int .u8 72)), (.const (.slice none 0 0))], none⟩ ::
⟨(some 8), .callF 63 [(.tmp 7)], none⟩ ::
⟨none, .store 32 (.tmp 2) (.tmp 8), none⟩ ::
[]))
.ret)
.skip))
(.seq
(.seq
(.plain (
⟨(some 9), .mv (.tmp 0), none⟩ ::
⟨(some 10), .len (.tmp 9), none⟩ ::
⟨(some 11), .bin .eql (.tmp 10) (.const (.int .i64 1)), none⟩ ::
[]))
(.cond (.tmp 11)
(.seq
(.plain (
⟨(some 12), .mv (.tmp 0), none⟩ ::
⟨(some 13), .iaS 32 (.tmp 12) (.const (.int .i64 0)), none⟩ ::
⟨(some 14), .load true 32 (.tmp 13), none⟩ ::
⟨(some 15), .callF 83 [(.tmp 14)], none⟩ ::
⟨(some 16), .callF 63 [(.tmp 15)], none⟩ ::
⟨none, .store 32 (.tmp 2) (.tmp 16), none⟩ ::
[]))
.ret)
.skip))
(.seq
(.plain (
⟨(some 17), .mv (.tmp 0), none⟩ ::
⟨(some 18), .len (.tmp 17), none⟩ ::
⟨(some 19), .callF 84 [(.tmp 18)], none⟩ ::
⟨(some 3), .mv (.tmp 19), none⟩ ::
[]))
(.seq
(.draw (
⟨(some 20), .mv (.tmp 0), none⟩ ::
⟨(some 21), .mv (.tmp 3), none⟩ ::
⟨(some 22), .slc 32 (.tmp 20) none (some (.tmp 21)), none⟩ ::
⟨(some 23), .callF 65 [(.tmp 22)], none⟩ ::
⟨(some 24), .mv (.tmp 0), none⟩ ::
⟨(some 25), .mv (.tmp 3), none⟩ ::
⟨(some 26), .slc 32 (.tmp 24) (some (.tmp 25)) none, none⟩ ::
⟨(some 27), .callF 65 [(.tmp 26)], none⟩ ::
⟨(some 28), .callF 85 [(.tmp 23), (.tmp 27)], none⟩ ::
⟨(some 29), .callF 63 [(.tmp 28)], none⟩ ::
⟨none, .store 32 (.tmp 2) (.tmp 29), none⟩ ::
[])
(⟨0, [], []⟩ :: ⟨1, [], []⟩ :: ⟨2, [], []⟩ :: ⟨4, [], []⟩ :: ⟨5, [], []⟩ :: ⟨6, [], []⟩ :: ⟨3, [], []⟩ :: ⟨7, [], []⟩ :: ⟨8, [], []⟩ :: ⟨9, [], []⟩ :: ⟨10, [], []⟩ :: []))
.ret)))))
theorem prep65 : prepFunc Try.prog 65 = some F65 := by kernel_rfl

-- indenture/indentureref18.Grown
def F66 : AFunc where
  ntmps := 30
  nparams := 3
  results := [(6, none)]
  code :=
(.seq
(.plain (
⟨(some 6), .mv (.const (.int .i64 0)), none⟩ ::
[]))
(.seq
(.seq
(.plain (
⟨(some 8), .mv (.tmp 0), none⟩ ::
⟨(some 9), .mv (.tmp 1), none⟩ ::
⟨(some 10), .bin .eql (.tmp 8) (.tmp 9), none⟩ ::
[]))
(.cond (.tmp 10)
(.seq
(.seq
(.plain (
⟨(some 11), .mv (.tmp 2), none⟩ ::
[]))
(.cond (.tmp 11)
(.seq
(.plain (
⟨(some 6), .mv (.const (.int .i64 0)), none⟩ ::
[]))
.ret)
.skip))
(.seq
(.plain (
⟨(some 6), .mv (.const (.int .i64 1)), none⟩ ::
[]))
.ret))
.skip))
(.seq
(.plain (
⟨(some 12), .mv (.tmp 1), none⟩ ::
⟨(some 13), .callF 84 [(.tmp 12)], none⟩ ::
⟨(some 7), .mv (.tmp 13), none⟩ ::
[]))
(.seq
(.seq
(.plain (
⟨(some 14), .mv (.tmp 0), none⟩ ::
⟨(some 15), .mv (.tmp 7), none⟩ ::
⟨(some 16), .bin .leq (.tmp 14) (.tmp 15), none⟩ ::
[]))
(.cond (.tmp 16)
(.seq
(.plain (
⟨(some 17), .mv (.tmp 0), none⟩ ::
⟨(some 18), .mv (.tmp 7), none⟩ ::
⟨(some 19), .mv (.tmp 2), none⟩ ::
⟨(some 20), .callF 66 [(.tmp 17), (.tmp 18), (.tmp 19)], none⟩ ::
⟨(some 21), .bin .add (.const (.int .i64 1)) (.tmp 20), none⟩ ::
⟨(some 6), .mv (.tmp 21), none⟩ ::
[]))
.ret)
.skip))
(.seq
(.plain (
⟨(some 22), .mv (.tmp 0), none⟩ ::
⟨(some 23), .mv (.tmp 7), none⟩ ::
⟨(some 24), .bin .sub (.tmp 22) (.tmp 23), none⟩ ::
⟨(some 25), .mv (.tmp 1), none⟩ ::
⟨(some 26), .mv (.tmp 7), none⟩ ::
⟨(some 27), .bin .sub (.tmp 25) (.tmp 26), none⟩ ::
⟨(some 28), .callF 66 [(.tmp 24), (.tmp 27), (.const (.bool false))], none⟩ ::
⟨(some 29), .bin .add (.const (.int .i64 1)) (.tmp 28), none⟩ ::
⟨(some 6), .mv (.tmp 29), none⟩ ::
[]))
.ret)))))
theorem prep66 : prepFunc Try.prog 66 = some F66 := by kernel_rfl

-- indenture/indentureref18.Both
def F67 : AFunc where
  ntmps := 103
  nparams := 5
  results := [(10, (some (true, 32))), (11, (some (true, 32))), (12, none)]
  code :=
(.seq
(.plain (
⟨(some 5), .box 24 (.tmp 0), none⟩ ::
⟨(some 10), .alloc 24 (List.replicate 32 (.v (.int .u8 0))), none⟩ ::
⟨(some 11), .alloc 24 (List.replicate 32 (.v (.int .u8 0))), none⟩ ::
⟨(some 12), .mv (.const (.slice none 0 0)), none⟩ ::
[]))
(.seq
(.seq
(.plain (
⟨(some 24), .mv (.tmp 1), none⟩ ::
⟨(some 25), .mv (.tmp 2), none⟩ ::
⟨(some 26), .bin .eql (.tmp 24) (.tmp 25), none⟩ ::
[]))
(.cond (.tmp 26)
(.seq
(.seq
(.plain (
⟨(some 27), .mv (.tmp 3), none⟩ ::
[]))
(.cond (.tmp 27)
(.seq
(.draw (
⟨(some 28), .load true 32 (.tmp 5), none⟩ ::
⟨(some 29), .load true 32 (.tmp 5), none⟩ ::
⟨none, .store 32 (.tmp 10) (.tmp 28), none⟩ ::
⟨none, .store 32 (.tmp 11) (.tmp 29), none⟩ ::
⟨(some 12), .mv (.const (.slice none 0 0)), none⟩ ::
[])
(⟨0, [], []⟩ :: ⟨1, [], []⟩ :: ⟨2, [], [1]⟩ :: ⟨3, [], []⟩ :: ⟨4, [], []⟩ :: []))
.ret)
.skip))
(.seq
(.draw (
⟨(some 30), .mv (.tmp 4), none⟩ ::
⟨(some 31), .iaS 32 (.tmp 30) (.const (.int .i64 0)), none⟩ ::
⟨(some 32), .load true 32 (.tmp 31), none⟩ ::
⟨(some 33), .mv (.tmp 4), none⟩ ::
⟨(some 34), .iaS 32 (.tmp 33) (.const (.int .i64 0)), none⟩ ::
⟨(some 35), .load true 32 (.tmp 34), none⟩ ::
⟨none, .store 32 (.tmp 10) (.tmp 32), none⟩ ::
⟨none, .store 32 (.tmp 11) (.tmp 35), none⟩ ::
⟨(some 12), .mv (.const (.slice none 0 0)), none⟩ ::
[])
(⟨0, [], []⟩ :: ⟨1, [], []⟩ :: ⟨2, [], []⟩ :: ⟨3, [], []⟩ :: ⟨4, [], []⟩ :: ⟨5, [], []⟩ :: ⟨6, [], [5]⟩ :: ⟨7, [], []⟩ :: ⟨8, [], []⟩ :: []))
.ret))
.skip))
(.seq
(.plain (
⟨(some 36), .mv (.tmp 2), none⟩ ::
⟨(some 37), .callF 84 [(.tmp 36)], none⟩ ::
⟨(some 13), .mv (.tmp 37), none⟩ ::
[]))
(.seq
(.plain (
⟨(some 38), .mv (.tmp 4), none⟩ ::
⟨(some 39), .mv (.tmp 4), none⟩ ::
⟨(some 40), .len (.tmp 39), none⟩ ::
⟨(some 41), .bin .sub (.tmp 40) (.const (.int .i64 1)), none⟩ ::
⟨(some 42), .iaS 32 (.tmp 38) (.tmp 41), none⟩ ::
⟨(some 43), .load true 32 (.tmp 42), none⟩ ::
⟨(some 14), .alloc 24 (List.replicate 32 (.v (.int .u8 0))), none⟩ ::
⟨none, .store 32 (.tmp 14) (.tmp 43), none⟩ ::
[]))
(.seq
(.seq
(.plain (
⟨(some 44), .mv (.tmp 1), none⟩ ::
⟨(some 45), .mv (.tmp 13), none⟩ ::
⟨(some 46), .bin .leq (.tmp 44) (.tmp 45), none⟩ ::
[]))
(.cond (.tmp 46)
(.seq
(.draw (
⟨(some 48), .load true 32 (.tmp 5), none⟩ ::
⟨(some 49), .mv (.tmp 1), none⟩ ::
⟨(some 50), .mv (.tmp 13), none⟩ ::
⟨(some 51), .mv (.tmp 3), none⟩ ::
⟨(some 52), .mv (.tmp 4), none⟩ ::
⟨(some 53), .mv (.tmp 4), none⟩ ::
⟨(some 54), .len (.tmp 53), none⟩ ::
⟨(some 55), .bin .sub (.tmp 54) (.const (.int .i64 1)), none⟩ ::
⟨(some 56), .slc 32 (.tmp 52) none (some (.tmp 55)), none⟩ ::
⟨(some 57), .callF 67 [(.tmp 48), (.tmp 49), (.tmp 50), (.tmp 51), (.tmp 56)], none⟩ ::
⟨(some 47), .mv (.tmp 57), none⟩ ::
⟨(some 58), .ext (.tmp 47) 0, none⟩ ::
⟨(some 59), .ext (.tmp 47) 1, none⟩ ::
⟨(some 60), .ext (.tmp 47) 2, none⟩ ::
⟨(some 15), .alloc 24 (List.replicate 32 (.v (.int .u8 0))), none⟩ ::
⟨(some 16), .alloc 24 (List.replicate 32 (.v (.int .u8 0))), none⟩ ::
⟨none, .store 32 (.tmp 15) (.tmp 58), none⟩ ::
⟨none, .store 32 (.tmp 16) (.tmp 59), none⟩ ::
⟨(some 17), .mv (.tmp 60), none⟩ ::
[])
(⟨0, [], []⟩ :: ⟨1, [], []⟩ :: ⟨2, [], []⟩ :: ⟨3, [], []⟩ :: ⟨4, [], []⟩ :: ⟨5, [], []⟩ :: ⟨6, [], []⟩ :: ⟨7, [], []⟩ :: ⟨8, [], []⟩ :: ⟨9, [14, 15], []⟩ :: ⟨10, [], []⟩ :: ⟨11, [], []⟩ :: ⟨12, [], []⟩ :: ⟨13, [], []⟩ :: ⟨14, [15], []⟩ :: ⟨15, [], []⟩ :: ⟨16, [], []⟩ :: ⟨17, [], []⟩ :: ⟨18, [], []⟩ :: []))
(.seq
(.plain (
⟨(some 61), .load true 32 (.tmp 16), none⟩ ::
⟨(some 62), .load true 32 (.tmp 14), none⟩ ::
⟨(some 63), .callF 85 [(.tmp 61), (.tmp 62)], none⟩ ::
⟨(some 18), .mv (.tmp 63), none⟩ ::
[]))
(.seq
(.draw (
⟨(some 64), .load true 32 (.tmp 15), none⟩ ::
⟨(some 65), .mv (.tmp 18), none⟩ ::
⟨(some 66), .callF 63 [(.tmp 65)], none⟩ ::
⟨(some 67), .mv (.tmp 17), none⟩ ::
⟨(some 68), .mv (.tmp 18), none⟩ ::
⟨(some 69), .bsl 1 [(.tmp 68)], none⟩ ::
⟨(some 70), .app 1 24 (.tmp 67) (.tmp 69), none⟩ ::
⟨none, .store 32 (.tmp 10) (.tmp 64), none⟩ ::
⟨none, .store 32 (.tmp 11) (.tmp 66), none⟩ ::
⟨(some 12), .mv (.tmp 70), none⟩ ::
[])
(⟨0, [], []⟩ :: ⟨1, [], []⟩ :: ⟨3, [], []⟩ :: ⟨4, [], []⟩ :: ⟨2, [5], [0]⟩ :: ⟨5, [], []⟩ :: ⟨6, [], [0]⟩ :: ⟨7, [], []⟩ :: ⟨8, [], []⟩ :: ⟨9, [], []⟩ :: []))
.ret)))
.skip))
(.seq
(.draw (
⟨(some 72), .load true 32 (.tmp 5), none⟩ ::
⟨(some 73), .mv (.tmp 1), none⟩ ::
⟨(some 74), .mv (.tmp 13), none⟩ ::
⟨(some 75), .bin .sub (.tmp 73) (.tmp 74), none⟩ ::
⟨(some 76), .mv (.tmp 2), none⟩ ::
⟨(some 77), .mv (.tmp 13), none⟩ ::
⟨(some 78), .bin .sub (.tmp 76) (.tmp 77), none⟩ ::
⟨(some 79), .mv (.tmp 4), none⟩ ::
⟨(some 80), .mv (.tmp 4), none⟩ ::
⟨(some 81), .len (.tmp 80), none⟩ ::
⟨(some 82), .bin .sub (.tmp 81) (.const (.int .i64 1)), none⟩ ::
⟨(some 83), .slc 32 (.tmp 79) none (some (.tmp 82)), none⟩ ::
⟨(some 84), .callF 67 [(.tmp 72), (.tmp 75), (.tmp 78), (.const (.bool false)), (.tmp 83)], none⟩ ::
⟨(some 71), .mv (.tmp 84), none⟩ ::
⟨(some 85), .ext (.tmp 71) 0, none⟩ ::
⟨(some 86), .ext (.tmp 71) 1, none⟩ ::
⟨(some 87), .ext (.tmp 71) 2, none⟩ ::
⟨(some 19), .alloc 24 (List.replicate 32 (.v (.int .u8 0))), none⟩ ::
⟨(some 20), .alloc 24 (List.replicate 32 (.v (.int .u8 0))), none⟩ ::
⟨none, .store 32 (.tmp 19) (.tmp 85), none⟩ ::
⟨none, .store 32 (.tmp 20) (.tmp 86), none⟩ ::
⟨(some 21), .mv (.tmp 87), none⟩ ::
[])
(⟨0, [], []⟩ :: ⟨1, [], []⟩ :: ⟨2, [], []⟩ :: ⟨3, [], []⟩ :: ⟨4, [], []⟩ :: ⟨5, [], []⟩ :: ⟨6, [], []⟩ :: ⟨7, [], []⟩ :: ⟨8, [], []⟩ :: ⟨9, [], []⟩ :: ⟨10, [], []⟩ :: ⟨11, [], []⟩ :: ⟨12, [17, 18], []⟩ :: ⟨13, [], []⟩ :: ⟨14, [], []⟩ :: ⟨15, [], []⟩ :: ⟨16, [], []⟩ :: ⟨17, [18], []⟩ :: ⟨18, [], []⟩ :: ⟨19, [], []⟩ :: ⟨20, [], []⟩ :: ⟨21, [], []⟩ :: []))
(.seq
(.draw (
⟨(some 88), .load true 32 (.tmp 14), none⟩ ::
⟨(some 89), .load true 32 (.tmp 19), none⟩ ::
⟨(some 90), .callF 85 [(.tmp 88), (.tmp 89)], none⟩ ::
⟨(some 91), .load true 32 (.tmp 14), none⟩ ::
⟨(some 92), .load true 32 (.tmp 20), none⟩ ::
⟨(some 93), .callF 85 [(.tmp 91), (.tmp 92)], none⟩ ::
⟨(some 22), .mv (.tmp 90), none⟩ ::
⟨(some 23), .mv (.tmp 93), none⟩ ::
[])
(⟨0, [], []⟩ :: ⟨1, [], []⟩ :: ⟨3, [], []⟩ :: ⟨4, [], []⟩ :: ⟨2, [], [3, 4]⟩ :: ⟨5, [], []⟩ :: ⟨6, [], []⟩ :: ⟨7, [], []⟩ :: []))
(.seq
(.plain (
⟨(some 94), .mv (.tmp 22), none⟩ ::
⟨(some 95), .callF 63 [(.tmp 94)], none⟩ ::
⟨(some 96), .mv (.tmp 23), none⟩ ::
⟨(some 97), .callF 63 [(.tmp 96)], none⟩ ::
⟨(some 98), .mv (.tmp 21), none⟩ ::
⟨(some 99), .mv (.tmp 22), none⟩ ::
⟨(some 100), .mv (.tmp 23), none⟩ ::
⟨(some 101), .bsl 1 [(.tmp 99), (.tmp 100)], none⟩ ::
⟨(some 102), .app 1 24 (.tmp 98) (.tmp 101), none⟩ ::
⟨none, .store 32 (.tmp 10) (.tmp 95), none⟩ ::
⟨none, .store 32 (.tmp 11) (.tmp 97), none⟩ ::
⟨(some 12), .mv (.tmp 102), none⟩ ::
[]))
.ret))))))))
theorem prep67 : prepFunc Try.prog 67 = some F67 := by kernel_rfl

-- slices.Clone[[]byte,byte]
def F68 : AFunc where
  ntmps := 8
  nparams := 1
  results := [(2, none)]
  code :=
(.seq
(.plain (
⟨(some 2), .mv (.const (.slice none 0 0)), none⟩ ::
[]))
(.seq
(.seq
(.plain (
⟨(some 3), .mv (.tmp 0), none⟩ ::
⟨(some 4), .eqn false (.tmp 3), none⟩ ::
[]))
(.cond (.tmp 4)
(.seq
(.plain (
⟨(some 2), .mv (.const (.slice none 0 0)), none⟩ ::
[]))
.ret)
.skip))
(.seq
(.plain (
⟨(some 5), .bsl 1 [], none⟩ ::
⟨(some 6), .mv (.tmp 0), none⟩ ::
⟨(some 7), .app 1 1 (.tmp 5) (.tmp 6), none⟩ ::
⟨(some 2), .mv (.tmp 7), none⟩ ::
[]))
.ret)))
theorem prep68 : prepFunc Try.prog 68 = some F68 := by kernel_rfl

-- (*indenture/codec.Reader).Digest
def F69 : AFunc where
  ntmps := 15
  nparams := 1
  results := [(2, (some (true, 32)))]
  code :=
(.seq
(.plain (
⟨(some 2), .alloc 24 (List.replicate 32 (.v (.int .u8 0))), none⟩ ::
[]))
(.seq
(.plain (
⟨(some 3), .alloc 24 (List.replicate 32 (.v (.int .u8 0))), none⟩ ::
[]))
(.seq
(.plain (
⟨(some 7), .mv (.tmp 0), none⟩ ::
⟨(some 8), .callF 70 [(.tmp 7), (.const (.int .i64 32))], none⟩ ::
⟨(some 6), .mv (.tmp 8), none⟩ ::
⟨(some 9), .ext (.tmp 6) 0, none⟩ ::
⟨(some 10), .ext (.tmp 6) 1, none⟩ ::
⟨(some 4), .mv (.tmp 9), none⟩ ::
⟨(some 5), .mv (.tmp 10), none⟩ ::
[]))
(.seq
(.plain (
⟨(some 11), .slcA 1 32 (.tmp 3) none none false, none⟩ ::
⟨(some 12), .mv (.tmp 4), none⟩ ::
⟨(some 13), .cpy 1 (.tmp 11) (.tmp 12), none⟩ ::
[]))
(.seq
(.plain (
⟨(some 14), .load true 32 (.tmp 3), none⟩ ::
⟨none, .store 32 (.tmp 2) (.tmp 14), none⟩ ::
[]))
.ret)))))
theorem prep69 : prepFunc Try.prog 69 = some F69 := by kernel_rfl

-- (*indenture/codec.Reader).take
def F70 : AFunc where
  ntmps := 44
  nparams := 2
  results := [(4, none), (5, none)]
  code :=
(.seq
(.plain (
⟨(some 4), .mv (.const (.slice none 0 0)), none⟩ ::
⟨(some 5), .mv (.const (.bool false)), none⟩ ::
[]))
(.seq
(.seq
(.plain (
⟨(some 7), .mv (.tmp 0), none⟩ ::
⟨(some 8), .nilc (.tmp 7), none⟩ ::
⟨(some 9), .fa 1 (.tmp 8), none⟩ ::
⟨(some 10), .load false 1 (.tmp 9), none⟩ ::
⟨(some 11), .bin .eql (.tmp 10) (.const (.int .i64 0)), none⟩ ::
⟨(some 12), .mv (.tmp 11), none⟩ ::
⟨(some 13), .mv (.tmp 1), (some (12, true))⟩ ::
⟨(some 14), .mv (.tmp 0), (some (12, true))⟩ ::
⟨(some 15), .nilc (.tmp 14), (some (12, true))⟩ ::
⟨(some 16), .fa 0 (.tmp 15), (some (12, true))⟩ ::
⟨(some 17), .load false 1 (.tmp 16), (some (12, true))⟩ ::
⟨(some 18), .len (.tmp 17), (some (12, true))⟩ ::
⟨(some 19), .bin .gtr (.tmp 13) (.tmp 18), (some (12, true))⟩ ::
⟨(some 20), .pick (.tmp 12) (.tmp 19) (.const (.bool false)), none⟩ ::
[]))
(.cond (.tmp 20)
(.plain (
⟨(some 21), .mv (.tmp 0), none⟩ ::
⟨(some 22), .callF 72 [(.tmp 21), (.const (.int .i64 20))], none⟩ ::
[]))
.skip))
(.seq
(.seq
(.plain (
⟨(some 23), .mv (.tmp 0), none⟩ ::
⟨(some 24), .nilc (.tmp 23), none⟩ ::
⟨(some 25), .fa 1 (.tmp 24), none⟩ ::
⟨(some 26), .load false 1 (.tmp 25), none⟩ ::
⟨(some 27), .bin .neq (.tmp 26) (.const (.int .i64 0)), none⟩ ::
[]))
(.cond (.tmp 27)
(.seq
(.plain (
⟨(some 4), .mv (.const (.slice none 0 0)), none⟩ ::
⟨(some 5), .mv (.const (.bool false)), none⟩ ::
[]))
.ret)
.skip))
(.seq
(.plain (
⟨(some 28), .mv (.tmp 0), none⟩ ::
⟨(some 29), .nilc (.tmp 28), none⟩ ::
⟨(some 30), .fa 0 (.tmp 29), none⟩ ::
⟨(some 31), .load false 1 (.tmp 30), none⟩ ::
⟨(some 32), .mv (.tmp 1), none⟩ ::
⟨(some 33), .slc 1 (.tmp 31) none (some (.tmp 32)), none⟩ ::
⟨(some 6), .mv (.tmp 33), none⟩ ::
[]))
(.seq
(.plain (
⟨(some 34), .mv (.tmp 0), none⟩ ::
⟨(some 35), .mv (.tmp 0), none⟩ ::
⟨(some 36), .nilc (.tmp 35), none⟩ ::
⟨(some 37), .fa 0 (.tmp 36), none⟩ ::
⟨(some 38), .load false 1 (.tmp 37), none⟩ ::
⟨(some 39), .mv (.tmp 1), none⟩ ::
⟨(some 40), .slc 1 (.tmp 38) (some (.tmp 39)) none, none⟩ ::
⟨(some 41), .nilc (.tmp 34), none⟩ ::
⟨(some 42), .fa 0 (.tmp 41), none⟩ ::
⟨none, .store 1 (.tmp 42) (.tmp 40), none⟩ ::
[]))
(.seq
(.plain (
⟨(some 43), .mv (.tmp 6), none⟩ ::
⟨(some 4), .mv (.tmp 43), none⟩ ::
⟨(some 5), .mv (.const (.bool true)), none⟩ ::
[]))
.ret))))))
theorem prep70 : prepFunc Try.prog 70 = some F70 := by kernel_rfl

-- (*indenture/codec.Reader).Byte
def F71 : AFunc where
  ntmps := 15
  nparams := 1
  results := [(2, none)]
  code :=
(.seq
(.plain (
⟨(some 2), .mv (.const (.int .u8 0)), none⟩ ::
[]))
(.seq
(.plain (
⟨(some 6), .mv (.tmp 0), none⟩ ::
⟨(some 7), .callF 70 [(.tmp 6), (.const (.int .i64 1))], none⟩ ::
⟨(some 5), .mv (.tmp 7), none⟩ ::
⟨(some 8), .ext (.tmp 5) 0, none⟩ ::
⟨(some 9), .ext (.tmp 5) 1, none⟩ ::
⟨(some 3), .mv (.tmp 8), none⟩ ::
⟨(some 4), .mv (.tmp 9), none⟩ ::
[]))
(.seq
(.seq
(.plain (
⟨(some 10), .mv (.tmp 4), none⟩ ::
⟨(some 11), .un .not (.tmp 10), none⟩ ::
[]))
(.cond (.tmp 11)
(.seq
(.plain (
⟨(some 2), .mv (.const (.int .u8 0)), none⟩ ::
[]))
.ret)
.skip))
(.seq
(.plain (
⟨(some 12), .mv (.tmp 3), none⟩ ::
⟨(some 13), .iaS 1 (.tmp 12) (.const (.int .i64 0)), none⟩ ::
⟨(some 14), .load false 1 (.tmp 13), none⟩ ::
⟨(some 2), .mv (.tmp 14), none⟩ ::
[]))
.ret))))
theorem prep71 : prepFunc Try.prog 71 = some F71 := by kernel_rfl

-- (*indenture/codec.Reader).fail
def F72 : AFunc where
  ntmps := 13
  nparams := 2
  results := []
  code :=
(.seq
(.plain (
⟨(some 4), .mv (.tmp 0), none⟩ ::
⟨(some 5), .nilc (.tmp 4), none⟩ ::
⟨(some 6), .fa 1 (.tmp 5), none⟩ ::
⟨(some 7), .load false 1 (.tmp 6), none⟩ ::
⟨(some 8), .bin .eql (.tmp 7) (.const (.int .i64 0)), none⟩ ::
[]))
(.cond (.tmp 8)
(.plain (
⟨(some 9), .mv (.tmp 0), none⟩ ::
⟨(some 10), .mv (.tmp 1), none⟩ ::
⟨(some 11), .nilc (.tmp 9), none⟩ ::
⟨(some 12), .fa 1 (.tmp 11), none⟩ ::
⟨none, .store 1 (.tmp 12) (.tmp 10), none⟩ ::
[]))
.skip))
theorem prep72 : prepFunc Try.prog 72 = some F72 := by kernel_rfl

-- (*indenture/codec.Writer).Digest
def F73 : AFunc where
  ntmps := 7
  nparams := 2
  results := []
  code :=
(.seq
(.plain (
⟨(some 3), .boxR 24 (.tmp 1), none⟩ ::
[]))
(.plain (
⟨(some 4), .mv (.tmp 0), none⟩ ::
⟨(some 5), .slcR 1 32 (.tmp 3) none none, none⟩ ::
⟨(some 6), .callF 86 [(.tmp 4), (.const (.bool true)), (.tmp 5)], none⟩ ::
[])))
theorem prep73 : prepFunc Try.prog 73 = some F73 := by kernel_rfl

-- (*indenture/codec.Writer).Byte
def F74 : AFunc where
  ntmps := 8
  nparams := 2
  results := []
  code :=
(.plain (
⟨(some 4), .mv (.tmp 0), none⟩ ::
⟨(some 5), .mv (.tmp 1), none⟩ ::
⟨(some 6), .bsl 1 [(.tmp 5)], none⟩ ::
⟨(some 7), .callF 86 [(.tmp 4), (.const (.bool true)), (.tmp 6)], none⟩ ::
[]))
theorem prep74 : prepFunc Try.prog 74 = some F74 := by kernel_rfl

-- indenture/sha.Preimage
def F75 : AFunc where
  ntmps := 26
  nparams := 2
  results := [(4, none)]
  code :=
(.seq
(.plain (
⟨(some 4), .mv (.const (.slice none 0 0)), none⟩ ::
[]))
(.seq
(.plain (
⟨(some 8), .mv (.tmp 0), none⟩ ::
⟨(some 9), .bsl 1 [(.tmp 8)], none⟩ ::
⟨(some 5), .mv (.tmp 9), none⟩ ::
[]))
(.seq
(.seq
(.plain (
⟨(some 10), .mv (.tmp 1), none⟩ ::
⟨(some 11), .len (.tmp 10), none⟩ ::
⟨(some 12), .mv (.const (.int .i64 0)), none⟩ ::
[]))
(.block 0
(.loop
(.seq
(.plain (
⟨(some 13), .bin .lss (.tmp 12) (.tmp 11), none⟩ ::
[]))
(.seq
(.cond (.tmp 13)
.skip
(.exit 0))
(.seq
(.block 1
(.seq
(.plain (
⟨(some 14), .iaS 1 (.tmp 10) (.tmp 12), none⟩ ::
⟨(some 15), .load false 1 (.tmp 14), none⟩ ::
⟨(some 7), .mv (.tmp 15), none⟩ ::
[]))
(.plain (
⟨(some 16), .mv (.tmp 5), none⟩ ::
⟨(some 17), .mv (.tmp 7), none⟩ ::
⟨(some 18), .len (.tmp 17), none⟩ ::
⟨(some 19), .cvt .u64 (.tmp 18), none⟩ ::
⟨(some 20), .callF 79 [(.tmp 19)], none⟩ ::
⟨(some 21), .app 1 1 (.tmp 16) (.tmp 20), none⟩ ::
⟨(some 22), .mv (.tmp 7), none⟩ ::
⟨(some 23), .app 1 1 (.tmp 21) (.tmp 22), none⟩ ::
⟨(some 5), .mv (.tmp 23), none⟩ ::
[]))))
(.plain (
⟨(some 24), .bin .add (.tmp 12) (.const (.int .i64 1)), none⟩ ::
⟨(some 12), .mv (.tmp 24), none⟩ ::
[]))))))))
(.seq
(.plain (
⟨(some 25), .mv (.tmp 5), none⟩ ::
⟨(some 4), .mv (.tmp 25), none⟩ ::
[]))
.ret))))
theorem prep75 : prepFunc Try.prog 75 = some F75 := by kernel_rfl

-- math/bits.Len
def F76 : AFunc where
  ntmps := 8
  nparams := 1
  results := [(2, none)]
  code :=
(.seq
(.plain (
⟨(some 2), .mv (.const (.int .i64 0)), none⟩ ::
[]))
(.seq
(.cond (.const (.bool false))
(.seq
(.plain (
⟨(some 3), .mv (.tmp 0), none⟩ ::
⟨(some 4), .cvt .u32 (.tmp 3), none⟩ ::
⟨(some 5), .callF 87 [(.tmp 4)], none⟩ ::
⟨(some 2), .mv (.tmp 5), none⟩ ::
[]))
.ret)
.skip)
(.seq
(.plain (
⟨(some 6), .mv (.tmp 0), none⟩ ::
⟨(some 7), .callF 88 [(.tmp 6)], none⟩ ::
⟨(some 2), .mv (.tmp 7), none⟩ ::
[]))
.ret)))
theorem prep76 : prepFunc Try.prog 76 = some F76 := by kernel_rfl

-- indenture/sha.begin
def F77 : AFunc where
  ntmps := 2
  nparams := 0
  results := [(0, (some (true, 8)))]
  code :=
(.seq
(.plain (
⟨(some 0), .alloc 118 (List.replicate 8 (.v (.int .u32 0))), none⟩ ::
[]))
(.seq
(.plain (
⟨(some 1), .bld (List.replicate 8 (.v (.int .u32 0))) [(0, 1, (.const (.int .u32 1779033703))), (1, 1, (.const (.int .u32 3144134277))), (2, 1, (.const (.int .u32 1013904242))), (3, 1, (.const (.int .u32 2773480762))), (4, 1, (.const (.int .u32 1359893119))), (5, 1, (.const (.int .u32 2600822924))), (6, 1, (.const (.int .u32 528734635))), (7, 1, (.const (.int .u32 1541459225)))], none⟩ ::
⟨none, .store 8 (.tmp 0) (.tmp 1), none⟩ ::
[]))
.ret))
theorem prep77 : prepFunc Try.prog 77 = some F77 := by kernel_rfl

-- indenture/sha.turn
def F78 : AFunc where
  ntmps := 121
  nparams := 2
  results := [(4, (some (true, 8)))]
  code :=
(.seq
(.plain (
⟨(some 2), .box 118 (.tmp 0), none⟩ ::
⟨(some 4), .alloc 118 (List.replicate 8 (.v (.int .u32 0))), none⟩ ::
[]))
(.seq
(.draw (
⟨(some 14), .mv (.tmp 1), none⟩ ::
⟨(some 15), .callF 89 [(.tmp 14)], none⟩ ::
⟨(some 16), .callF 90 [], none⟩ ::
⟨(some 17), .load true 8 (.tmp 2), none⟩ ::
⟨(some 5), .alloc 130 (List.replicate 64 (.v (.int .u32 0))), none⟩ ::
⟨(some 6), .alloc 130 (List.replicate 64 (.v (.int .u32 0))), none⟩ ::
⟨(some 7), .alloc 118 (List.replicate 8 (.v (.int .u32 0))), none⟩ ::
⟨none, .store 64 (.tmp 5) (.tmp 15), none⟩ ::
⟨none, .store 64 (.tmp 6) (.tmp 16), none⟩ ::
⟨none, .store 8 (.tmp 7) (.tmp 17), none⟩ ::
[])
(⟨0, [], []⟩ :: ⟨3, [], []⟩ :: ⟨1, [4, 5, 6], [3]⟩ :: ⟨2, [4, 5, 6], [3]⟩ :: ⟨4, [5, 6], []⟩ :: ⟨5, [6], []⟩ :: ⟨6, [], []⟩ :: ⟨7, [], [3]⟩ :: ⟨8, [], [3]⟩ :: ⟨9, [], []⟩ :: []))
(.seq
(.seq
(.plain (
⟨(some 18), .mv (.const (.int .i64 0)), none⟩ ::
[]))
(.block 0
(.loop
(.seq
(.plain (
⟨(some 19), .bin .lss (.tmp 18) (.const (.int .i64 64)), none⟩ ::
[]))
(.seq
(.cond (.tmp 19)
.skip
(.exit 0))
(.seq
(.block 1
(.seq
(.plain (
⟨(some 20), .mv (.tmp 18), none⟩ ::
⟨(some 8), .mv (.tmp 20), none⟩ ::
[]))
(.seq
(.draw (
⟨(some 21), .iaA 1 8 (.tmp 7) (.const (.int .i64 4)), none⟩ ::
⟨(some 22), .load false 1 (.tmp 21), none⟩ ::
⟨(some 23), .callF 91 [(.tmp 22), (.const (.int .i64 (-6)))], none⟩ ::
⟨(some 24), .iaA 1 8 (.tmp 7) (.const (.int .i64 4)), none⟩ ::
⟨(some 25), .load false 1 (.tmp 24), none⟩ ::
⟨(some 26), .callF 91 [(.tmp 25), (.const (.int .i64 (-11)))], none⟩ ::
⟨(some 27), .bin .xor (.tmp 23) (.tmp 26), none⟩ ::
⟨(some 28), .iaA 1 8 (.tmp 7) (.const (.int .i64 4)), none⟩ ::
⟨(some 29), .load false 1 (.tmp 28), none⟩ ::
⟨(some 30), .callF 91 [(.tmp 29), (.const (.int .i64 (-25)))], none⟩ ::
⟨(some 31), .bin .xor (.tmp 27) (.tmp 30), none⟩ ::
⟨(some 9), .mv (.tmp 31), none⟩ ::
[])
(⟨0, [], []⟩ :: ⟨1, [], []⟩ :: ⟨3, [], []⟩ :: ⟨4, [], []⟩ :: ⟨7, [], []⟩ :: ⟨8, [], []⟩ :: ⟨2, [], [4, 8]⟩ :: ⟨5, [], [8]⟩ :: ⟨6, [], []⟩ :: ⟨9, [], []⟩ :: ⟨10, [], []⟩ :: ⟨11, [], []⟩ :: []))
(.seq
(.draw (
⟨(some 32), .iaA 1 8 (.tmp 7) (.const (.int .i64 7)), none⟩ ::
⟨(some 33), .load false 1 (.tmp 32), none⟩ ::
⟨(some 34), .mv (.tmp 9), none⟩ ::
⟨(some 35), .bin .add (.tmp 33) (.tmp 34), none⟩ ::
⟨(some 36), .iaA 1 8 (.tmp 7) (.const (.int .i64 4)), none⟩ ::
⟨(some 37), .load false 1 (.tmp 36), none⟩ ::
⟨(some 38), .iaA 1 8 (.tmp 7) (.const (.int .i64 5)), none⟩ ::
⟨(some 39), .load false 1 (.tmp 38), none⟩ ::
⟨(some 40), .bin .and (.tmp 37) (.tmp 39), none⟩ ::
⟨(some 41), .iaA 1 8 (.tmp 7) (.const (.int .i64 4)), none⟩ ::
⟨(some 42), .load false 1 (.tmp 41), none⟩ ::
⟨(some 43), .un .xor (.tmp 42), none⟩ ::
⟨(some 44), .iaA 1 8 (.tmp 7) (.const (.int .i64 6)), none⟩ ::
⟨(some 45), .load false 1 (.tmp 44), none⟩ ::
⟨(some 46), .bin .and (.tmp 43) (.tmp 45), none⟩ ::
⟨(some 47), .bin .xor (.tmp 40) (.tmp 46), none⟩ ::
⟨(some 48), .bin .add (.tmp 35) (.tmp 47), none⟩ ::
⟨(some 49), .mv (.tmp 8), none⟩ ::
⟨(some 50), .iaA 1 64 (.tmp 6) (.tmp 49), none⟩ ::
⟨(some 51), .load false 1 (.tmp 50), none⟩ ::
⟨(some 52), .bin .add (.tmp 48) (.tmp 51), none⟩ ::
⟨(some 53), .mv (.tmp 8), none⟩ ::
⟨(some 54), .iaA 1 64 (.tmp 5) (.tmp 53), none⟩ ::
⟨(some 55), .load false 1 (.tmp 54), none⟩ ::
⟨(some 56), .bin .add (.tmp 52) (.tmp 55), none⟩ ::
⟨(some 10), .mv (.tmp 56), none⟩ ::
[])
(⟨0, [], []⟩ :: ⟨1, [], []⟩ :: ⟨2, [], []⟩ :: ⟨3, [], []⟩ :: ⟨4, [], []⟩ :: ⟨5, [], []⟩ :: ⟨6, [], []⟩ :: ⟨7, [], []⟩ :: ⟨8, [], []⟩ :: ⟨9, [], []⟩ :: ⟨10, [], []⟩ :: ⟨11, [], []⟩ :: ⟨12, [], []⟩ :: ⟨13, [], []⟩ :: ⟨14, [], []⟩ :: ⟨15, [], []⟩ :: ⟨16, [], []⟩ :: ⟨17, [], []⟩ :: ⟨18, [], []⟩ :: ⟨19, [], []⟩ :: ⟨20, [], []⟩ :: ⟨21, [], []⟩ :: ⟨22, [], []⟩ :: ⟨23, [], []⟩ :: ⟨24, [], []⟩ :: ⟨25, [], []⟩ :: []))
(.seq
(.draw (
⟨(some 57), .iaA 1 8 (.tmp 7) (.const (.int .i64 0)), none⟩ ::
⟨(some 58), .load false 1 (.tmp 57), none⟩ ::
⟨(some 59), .callF 91 [(.tmp 58), (.const (.int .i64 (-2)))], none⟩ ::
⟨(some 60), .iaA 1 8 (.tmp 7) (.const (.int .i64 0)), none⟩ ::
⟨(some 61), .load false 1 (.tmp 60), none⟩ ::
⟨(some 62), .callF 91 [(.tmp 61), (.const (.int .i64 (-13)))], none⟩ ::
⟨(some 63), .bin .xor (.tmp 59) (.tmp 62), none⟩ ::
⟨(some 64), .iaA 1 8 (.tmp 7) (.const (.int .i64 0)), none⟩ ::
⟨(some 65), .load false 1 (.tmp 64), none⟩ ::
⟨(some 66), .callF 91 [(.tmp 65), (.const (.int .i64 (-22)))], none⟩ ::
⟨(some 67), .bin .xor (.tmp 63) (.tmp 66), none⟩ ::
⟨(some 11), .mv (.tmp 67), none⟩ ::
[])
(⟨0, [], []⟩ :: ⟨1, [], []⟩ :: ⟨3, [], []⟩ :: ⟨4, [], []⟩ :: ⟨7, [], []⟩ :: ⟨8, [], []⟩ :: ⟨2, [], [4, 8]⟩ :: ⟨5, [], [8]⟩ :: ⟨6, [], []⟩ :: ⟨9, [], []⟩ :: ⟨10, [], []⟩ :: ⟨11, [], []⟩ :: []))
(.seq
(.plain (
⟨(some 68), .mv (.tmp 11), none⟩ ::
⟨(some 69), .iaA 1 8 (.tmp 7) (.const (.int .i64 0)), none⟩ ::
⟨(some 70), .load false 1 (.tmp 69), none⟩ ::
⟨(some 71), .iaA 1 8 (.tmp 7) (.const (.int .i64 1)), none⟩ ::
⟨(some 72), .load false 1 (.tmp 71), none⟩ ::
⟨(some 73), .bin .and (.tmp 70) (.tmp 72), none⟩ ::
⟨(some 74), .iaA 1 8 (.tmp 7) (.const (.int .i64 0)), none⟩ ::
⟨(some 75), .load false 1 (.tmp 74), none⟩ ::
⟨(some 76), .iaA 1 8 (.tmp 7) (.const (.int .i64 2)), none⟩ ::
⟨(some 77), .load false 1 (.tmp 76), none⟩ ::
⟨(some 78), .bin .and (.tmp 75) (.tmp 77), none⟩ ::
⟨(some 79), .bin .xor (.tmp 73) (.tmp 78), none⟩ ::
⟨(some 80), .iaA 1 8 (.tmp 7) (.const (.int .i64 1)), none⟩ ::
⟨(some 81), .load false 1 (.tmp 80), none⟩ ::
⟨(some 82), .iaA 1 8 (.tmp 7) (.const (.int .i64 2)), none⟩ ::
⟨(some 83), .load false 1 (.tmp 82), none⟩ ::
⟨(some 84), .bin .and (.tmp 81) (.tmp 83), none⟩ ::
⟨(some 85), .bin .xor (.tmp 79) (.tmp 84), none⟩ ::
⟨(some 86), .bin .add (.tmp 68) (.tmp 85), none⟩ ::
⟨(some 12), .mv (.tmp 86), none⟩ ::
[]))
(.plain (
⟨(some 87), .mv (.tmp 10), none⟩ ::
⟨(some 88), .mv (.tmp 12), none⟩ ::
⟨(some 89), .bin .add (.tmp 87) (.tmp 88), none⟩ ::
⟨(some 90), .iaA 1 8 (.tmp 7) (.const (.int .i64 0)), none⟩ ::
⟨(some 91), .load false 1 (.tmp 90), none⟩ ::
⟨(some 92), .iaA 1 8 (.tmp 7) (.const (.int .i64 1)), none⟩ ::
⟨(some 93), .load false 1 (.tmp 92), none⟩ ::
⟨(some 94), .iaA 1 8 (.tmp 7) (.const (.int .i64 2)), none⟩ ::
⟨(some 95), .load false 1 (.tmp 94), none⟩ ::
⟨(some 96), .iaA 1 8 (.tmp 7) (.const (.int .i64 3)), none⟩ ::
⟨(some 97), .load false 1 (.tmp 96), none⟩ ::
⟨(some 98), .mv (.tmp 10), none⟩ ::
⟨(some 99), .bin .add (.tmp 97) (.tmp 98), none⟩ ::
⟨(some 100), .iaA 1 8 (.tmp 7) (.const (.int .i64 4)), none⟩ ::
⟨(some 101), .load false 1 (.tmp 100), none⟩ ::
⟨(some 102), .iaA 1 8 (.tmp 7) (.const (.int .i64 5)), none⟩ ::
⟨(some 103), .load false 1 (.tmp 102), none⟩ ::
⟨(some 104), .iaA 1 8 (.tmp 7) (.const (.int .i64 6)), none⟩ ::
⟨(some 105), .load false 1 (.tmp 104), none⟩ ::
⟨(some 106), .bld (List.replicate 8 (.v (.int .u32 0))) [(0, 1, (.tmp 89)), (1, 1, (.tmp 91)), (2, 1, (.tmp 93)), (3, 1, (.tmp 95)), (4, 1, (.tmp 99)), (5, 1, (.tmp 101)), (6, 1, (.tmp 103)), (7, 1, (.tmp 105))], none⟩ ::
⟨none, .store 8 (.tmp 7) (.tmp 106), none⟩ ::
[]))))))))
(.plain (
⟨(some 107), .bin .add (.tmp 18) (.const (.int .i64 1)), none⟩ ::
⟨(some 18), .mv (.tmp 107), none⟩ ::
[]))))))))
(.seq
(.seq
(.plain (
⟨(some 108), .mv (.const (.int .i64 0)), none⟩ ::
[]))
(.block 2
(.loop
(.seq
(.plain (
⟨(some 109), .bin .lss (.tmp 108) (.const (.int .i64 8)), none⟩ ::
[]))
(.seq
(.cond (.tmp 109)
.skip
(.exit 2))
(.seq
(.block 3
(.seq
(.plain (
⟨(some 110), .mv (.tmp 108), none⟩ ::
⟨(some 13), .mv (.tmp 110), none⟩ ::
[]))
(.draw (
⟨(some 111), .mv (.tmp 13), none⟩ ::
⟨(some 112), .iaA 1 8 (.tmp 7) (.tmp 111), none⟩ ::
⟨(some 113), .load false 1 (.tmp 112), none⟩ ::
⟨(some 114), .mv (.tmp 13), none⟩ ::
⟨(some 115), .iaA 1 8 (.tmp 2) (.tmp 114), none⟩ ::
⟨(some 116), .load false 1 (.tmp 115), none⟩ ::
⟨(some 117), .bin .add (.tmp 113) (.tmp 116), none⟩ ::
⟨(some 118), .iaA 1 8 (.tmp 7) (.tmp 111), none⟩ ::
⟨none, .store 1 (.tmp 118) (.tmp 117), none⟩ ::
[])
(⟨0, [], []⟩ :: ⟨1, [], []⟩ :: ⟨2, [], []⟩ :: ⟨3, [], []⟩ :: ⟨4, [], []⟩ :: ⟨5, [], []⟩ :: ⟨6, [], []⟩ :: ⟨7, [], []⟩ :: ⟨8, [], []⟩ :: []))))
(.plain (
⟨(some 119), .bin .add (.tmp 108) (.const (.int .i64 1)), none⟩ ::
⟨(some 108), .mv (.tmp 119), none⟩ ::
[]))))))))
(.seq
(.plain (
⟨(some 120), .load true 8 (.tmp 7), none⟩ ::
⟨none, .store 8 (.tmp 4) (.tmp 120), none⟩ ::
[]))
.ret)))))
theorem prep78 : prepFunc Try.prog 78 = some F78 := by kernel_rfl

-- indenture/sha.eight
def F79 : AFunc where
  ntmps := 17
  nparams := 1
  results := [(2, none)]
  code :=
(.seq
(.plain (
⟨(some 2), .mv (.const (.slice none 0 0)), none⟩ ::
[]))
(.seq
(.plain (
⟨(some 3), .mv (.const (.slice none 0 0)), none⟩ ::
[]))
(.seq
(.seq
(.plain (
⟨(some 4), .mv (.const (.int .i64 56)), none⟩ ::
[]))
(.block 0
(.loop
(.seq
(.seq
(.plain (
⟨(some 5), .mv (.tmp 4), none⟩ ::
⟨(some 6), .bin .geq (.tmp 5) (.const (.int .i64 0)), none⟩ ::
[]))
(.cond (.tmp 6)
.skip
(.exit 0)))
(.seq
(.block 1
(.plain (
⟨(some 9), .mv (.tmp 3), none⟩ ::
⟨(some 10), .mv (.tmp 0), none⟩ ::
⟨(some 11), .mv (.tmp 4), none⟩ ::
⟨(some 12), .bin .shr (.tmp 10) (.tmp 11), none⟩ ::
⟨(some 13), .cvt .u8 (.tmp 12), none⟩ ::
⟨(some 14), .bsl 1 [(.tmp 13)], none⟩ ::
⟨(some 15), .app 1 1 (.tmp 9) (.tmp 14), none⟩ ::
⟨(some 3), .mv (.tmp 15), none⟩ ::
[])))
(.plain (
⟨(some 7), .mv (.tmp 4), none⟩ ::
⟨(some 8), .bin .sub (.tmp 7) (.const (.int .i64 8)), none⟩ ::
⟨(some 4), .mv (.tmp 8), none⟩ ::
[])))))))
(.seq
(.plain (
⟨(some 16), .mv (.tmp 3), none⟩ ::
⟨(some 2), .mv (.tmp 16), none⟩ ::
[]))
.ret))))
theorem prep79 : prepFunc Try.prog 79 = some F79 := by kernel_rfl

-- indenture/indentureref01.With
def F80 : AFunc where
  ntmps := 78
  nparams := 2
  results := [(4, (some (true, 32)))]
  code :=
(.seq
(.plain (
⟨(some 4), .alloc 24 (List.replicate 32 (.v (.int .u8 0))), none⟩ ::
[]))
(.seq
(.plain (
⟨(some 12), .bsl 1 [], none⟩ ::
⟨(some 13), .mv (.tmp 0), none⟩ ::
⟨(some 14), .app 1 1 (.tmp 12) (.tmp 13), none⟩ ::
⟨(some 15), .bsl 1 [(.const (.int .u8 128))], none⟩ ::
⟨(some 16), .app 1 1 (.tmp 14) (.tmp 15), none⟩ ::
⟨(some 5), .mv (.tmp 16), none⟩ ::
[]))
(.seq
(.block 0
(.loop
(.seq
(.seq
(.plain (
⟨(some 17), .mv (.tmp 5), none⟩ ::
⟨(some 18), .len (.tmp 17), none⟩ ::
⟨(some 19), .bin .rem (.tmp 18) (.const (.int .i64 64)), none⟩ ::
⟨(some 20), .bin .neq (.tmp 19) (.const (.int .i64 56)), none⟩ ::
[]))
(.cond (.tmp 20)
.skip
(.exit 0)))
(.block 1
(.plain (
⟨(some 21), .mv (.tmp 5), none⟩ ::
⟨(some 22), .bsl 1 [(.const (.int .u8 0))], none⟩ ::
⟨(some 23), .app 1 1 (.tmp 21) (.tmp 22), none⟩ ::
⟨(some 5), .mv (.tmp 23), none⟩ ::
[]))))))
(.seq
(.plain (
⟨(some 24), .mv (.tmp 0), none⟩ ::
⟨(some 25), .len (.tmp 24), none⟩ ::
⟨(some 26), .cvt .u64 (.tmp 25), none⟩ ::
⟨(some 27), .bin .mul (.const (.int .u64 8)) (.tmp 26), none⟩ ::
⟨(some 6), .mv (.tmp 27), none⟩ ::
[]))
(.seq
(.seq
(.plain (
⟨(some 7), .mv (.const (.int .i64 0)), none⟩ ::
[]))
(.block 2
(.loop
(.seq
(.seq
(.plain (
⟨(some 28), .mv (.tmp 7), none⟩ ::
⟨(some 29), .bin .lss (.tmp 28) (.const (.int .i64 8)), none⟩ ::
[]))
(.cond (.tmp 29)
.skip
(.exit 2)))
(.seq
(.block 3
(.plain (
⟨(some 32), .mv (.tmp 5), none⟩ ::
⟨(some 33), .mv (.tmp 6), none⟩ ::
⟨(some 34), .mv (.tmp 7), none⟩ ::
⟨(some 35), .bin .mul (.const (.int .i64 8)) (.tmp 34), none⟩ ::
⟨(some 36), .bin .sub (.const (.int .i64 56)) (.tmp 35), none⟩ ::
⟨(some 37), .cvt .u64 (.tmp 36), none⟩ ::
⟨(some 38), .bin .shr (.tmp 33) (.tmp 37), none⟩ ::
⟨(some 39), .bin .rem (.tmp 38) (.const (.int .u64 256)), none⟩ ::
⟨(some 40), .cvt .u8 (.tmp 39), none⟩ ::
⟨(some 41), .bsl 1 [(.tmp 40)], none⟩ ::
⟨(some 42), .app 1 1 (.tmp 32) (.tmp 41), none⟩ ::
⟨(some 5), .mv (.tmp 42), none⟩ ::
[])))
(.plain (
⟨(some 30), .mv (.tmp 7), none⟩ ::
⟨(some 31), .bin .add (.tmp 30) (.const (.int .i64 1)), none⟩ ::
⟨(some 7), .mv (.tmp 31), none⟩ ::
[])))))))
(.seq
(.plain (
⟨(some 43), .bsl 1 [(.const (.int .u32 1779033703)), (.const (.int .u32 3144134277)), (.const (.int .u32 1013904242)), (.const (.int .u32 2773480762)), (.const (.int .u32 1359893119)), (.const (.int .u32 2600822924)), (.const (.int .u32 528734635)), (.const (.int .u32 1541459225))], none⟩ ::
⟨(some 8), .mv (.tmp 43), none⟩ ::
[]))
(.seq
(.seq
(.plain (
⟨(some 9), .mv (.const (.int .i64 0)), none⟩ ::
[]))
(.block 4
(.loop
(.seq
(.seq
(.plain (
⟨(some 44), .mv (.tmp 9), none⟩ ::
⟨(some 45), .mv (.tmp 5), none⟩ ::
⟨(some 46), .len (.tmp 45), none⟩ ::
⟨(some 47), .bin .lss (.tmp 44) (.tmp 46), none⟩ ::
[]))
(.cond (.tmp 47)
.skip
(.exit 4)))
(.seq
(.block 5
(.plain (
⟨(some 50), .mv (.tmp 8), none⟩ ::
⟨(some 51), .mv (.tmp 5), none⟩ ::
⟨(some 52), .mv (.tmp 9), none⟩ ::
⟨(some 53), .mv (.tmp 9), none⟩ ::
⟨(some 54), .bin .add (.tmp 53) (.const (.int .i64 64)), none⟩ ::
⟨(some 55), .slc 1 (.tmp 51) (some (.tmp 52)) (some (.tmp 54)), none⟩ ::
⟨(some 56), .mv (.tmp 1), none⟩ ::
⟨(some 57), .callF 92 [(.tmp 50), (.tmp 55), (.tmp 56)], none⟩ ::
⟨(some 8), .mv (.tmp 57), none⟩ ::
[])))
(.plain (
⟨(some 48), .mv (.tmp 9), none⟩ ::
⟨(some 49), .bin .add (.tmp 48) (.const (.int .i64 64)), none⟩ ::
⟨(some 9), .mv (.tmp 49), none⟩ ::
[])))))))
(.seq
(.plain (
⟨(some 10), .alloc 24 (List.replicate 32 (.v (.int .u8 0))), none⟩ ::
[]))
(.seq
(.seq
(.plain (
⟨(some 11), .mv (.const (.int .i64 0)), none⟩ ::
[]))
(.block 6
(.loop
(.seq
(.seq
(.plain (
⟨(some 58), .mv (.tmp 11), none⟩ ::
⟨(some 59), .bin .lss (.tmp 58) (.const (.int .i64 32)), none⟩ ::
[]))
(.cond (.tmp 59)
.skip
(.exit 6)))
(.seq
(.block 7
(.plain (
⟨(some 62), .mv (.tmp 11), none⟩ ::
⟨(some 63), .mv (.tmp 8), none⟩ ::
⟨(some 64), .mv (.tmp 11), none⟩ ::
⟨(some 65), .bin .quo (.tmp 64) (.const (.int .i64 4)), none⟩ ::
⟨(some 66), .iaS 1 (.tmp 63) (.tmp 65), none⟩ ::
⟨(some 67), .load false 1 (.tmp 66), none⟩ ::
⟨(some 68), .mv (.tmp 11), none⟩ ::
⟨(some 69), .bin .rem (.tmp 68) (.const (.int .i64 4)), none⟩ ::
⟨(some 70), .bin .mul (.const (.int .i64 8)) (.tmp 69), none⟩ ::
⟨(some 71), .bin .sub (.const (.int .i64 24)) (.tmp 70), none⟩ ::
⟨(some 72), .cvt .u64 (.tmp 71), none⟩ ::
⟨(some 73), .bin .shr (.tmp 67) (.tmp 72), none⟩ ::
⟨(some 74), .bin .rem (.tmp 73) (.const (.int .u32 256)), none⟩ ::
⟨(some 75), .cvt .u8 (.tmp 74), none⟩ ::
⟨(some 76), .iaA 1 32 (.tmp 10) (.tmp 62), none⟩ ::
⟨none, .store 1 (.tmp 76) (.tmp 75), none⟩ ::
[])))
(.plain (
⟨(some 60), .mv (.tmp 11), none⟩ ::
⟨(some 61), .bin .add (.tmp 60) (.const (.int .i64 1)), none⟩ ::
⟨(some 11), .mv (.tmp 61), none⟩ ::
[])))))))
(.seq
(.plain (
⟨(some 77), .load true 32 (.tmp 10), none⟩ ::
⟨none, .store 32 (.tmp 4) (.tmp 77), none⟩ ::
[]))
.ret))))))))))
theorem prep80 : prepFunc Try.prog 80 = some F80 := by kernel_rfl

-- indenture/indentureref01.Words
def F81 : AFunc where
  ntmps := 2
  nparams := 0
  results := [(0, none)]
  code :=
(.seq
(.plain (
⟨(some 0), .mv (.const (.slice none 0 0)), none⟩ ::
[]))
(.seq
(.plain (
⟨(some 1), .bsl 1 [(.const (.int .u32 1116352408)), (.const (.int .u32 1899447441)), (.const (.int .u32 3049323471)), (.const (.int .u32 3921009573)), (.const (.int .u32 961987163)), (.const (.int .u32 1508970993)), (.const (.int .u32 2453635748)), (.const (.int .u32 2870763221)), (.const (.int .u32 3624381080)), (.const (.int .u32 310598401)), (.const (.int .u32 607225278)), (.const (.int .u32 1426881987)), (.const (.int .u32 1925078388)), (.const (.int .u32 2162078206)), (.const (.int .u32 2614888103)), (.const (.int .u32 3248222580)), (.const (.int .u32 3835390401)), (.const (.int .u32 4022224774)), (.const (.int .u32 264347078)), (.const (.int .u32 604807628)), (.const (.int .u32 770255983)), (.const (.int .u32 1249150122)), (.const (.int .u32 1555081692)), (.const (.int .u32 1996064986)), (.const (.int .u32 2554220882)), (.const (.int .u32 2821834349)), (.const (.int .u32 2952996808)), (.const (.int .u32 3210313671)), (.const (.int .u32 3336571891)), (.const (.int .u32 3584528711)), (.const (.int .u32 113926993)), (.const (.int .u32 338241895)), (.const (.int .u32 666307205)), (.const (.int .u32 773529912)), (.const (.int .u32 1294757372)), (.const (.int .u32 1396182291)), (.const (.int .u32 1695183700)), (.const (.int .u32 1986661051)), (.const (.int .u32 2177026350)), (.const (.int .u32 2456956037)), (.const (.int .u32 2730485921)), (.const (.int .u32 2820302411)), (.const (.int .u32 3259730800)), (.const (.int .u32 3345764771)), (.const (.int .u32 3516065817)), (.const (.int .u32 3600352804)), (.const (.int .u32 4094571909)), (.const (.int .u32 275423344)), (.const (.int .u32 430227734)), (.const (.int .u32 506948616)), (.const (.int .u32 659060556)), (.const (.int .u32 883997877)), (.const (.int .u32 958139571)), (.const (.int .u32 1322822218)), (.const (.int .u32 1537002063)), (.const (.int .u32 1747873779)), (.const (.int .u32 1955562222)), (.const (.int .u32 2024104815)), (.const (.int .u32 2227730452)), (.const (.int .u32 2361852424)), (.const (.int .u32 2428436474)), (.const (.int .u32 2756734187)), (.const (.int .u32 3204031479)), (.const (.int .u32 3329325298))], none⟩ ::
⟨(some 0), .mv (.tmp 1), none⟩ ::
[]))
.ret))
theorem prep81 : prepFunc Try.prog 81 = some F81 := by kernel_rfl

-- indenture/indentureref01.Preimage
def F82 : AFunc where
  ntmps := 45
  nparams := 2
  results := [(4, none)]
  code :=
(.seq
(.plain (
⟨(some 4), .mv (.const (.slice none 0 0)), none⟩ ::
[]))
(.seq
(.plain (
⟨(some 9), .mv (.tmp 0), none⟩ ::
⟨(some 10), .bsl 1 [(.tmp 9)], none⟩ ::
⟨(some 5), .mv (.tmp 10), none⟩ ::
[]))
(.seq
(.seq
(.plain (
⟨(some 6), .mv (.const (.int .i64 0)), none⟩ ::
[]))
(.block 0
(.loop
(.seq
(.seq
(.plain (
⟨(some 11), .mv (.tmp 6), none⟩ ::
⟨(some 12), .mv (.tmp 1), none⟩ ::
⟨(some 13), .len (.tmp 12), none⟩ ::
⟨(some 14), .bin .lss (.tmp 11) (.tmp 13), none⟩ ::
[]))
(.cond (.tmp 14)
.skip
(.exit 0)))
(.seq
(.block 1
(.seq
(.plain (
⟨(some 17), .mv (.tmp 1), none⟩ ::
⟨(some 18), .mv (.tmp 6), none⟩ ::
⟨(some 19), .iaS 1 (.tmp 17) (.tmp 18), none⟩ ::
⟨(some 20), .load false 1 (.tmp 19), none⟩ ::
⟨(some 21), .len (.tmp 20), none⟩ ::
⟨(some 22), .cvt .u64 (.tmp 21), none⟩ ::
⟨(some 7), .mv (.tmp 22), none⟩ ::
[]))
(.seq
(.seq
(.plain (
⟨(some 8), .mv (.const (.int .i64 0)), none⟩ ::
[]))
(.block 2
(.loop
(.seq
(.seq
(.plain (
⟨(some 23), .mv (.tmp 8), none⟩ ::
⟨(some 24), .bin .lss (.tmp 23) (.const (.int .i64 8)), none⟩ ::
[]))
(.cond (.tmp 24)
.skip
(.exit 2)))
(.seq
(.block 3
(.plain (
⟨(some 27), .mv (.tmp 5), none⟩ ::
⟨(some 28), .mv (.tmp 7), none⟩ ::
⟨(some 29), .mv (.tmp 8), none⟩ ::
⟨(some 30), .bin .mul (.const (.int .i64 8)) (.tmp 29), none⟩ ::
⟨(some 31), .bin .sub (.const (.int .i64 56)) (.tmp 30), none⟩ ::
⟨(some 32), .cvt .u64 (.tmp 31), none⟩ ::
⟨(some 33), .bin .shr (.tmp 28) (.tmp 32), none⟩ ::
⟨(some 34), .bin .rem (.tmp 33) (.const (.int .u64 256)), none⟩ ::
⟨(some 35), .cvt .u8 (.tmp 34), none⟩ ::
⟨(some 36), .bsl 1 [(.tmp 35)], none⟩ ::
⟨(some 37), .app 1 1 (.tmp 27) (.tmp 36), none⟩ ::
⟨(some 5), .mv (.tmp 37), none⟩ ::
[])))
(.plain (
⟨(some 25), .mv (.tmp 8), none⟩ ::
⟨(some 26), .bin .add (.tmp 25) (.const (.int .i64 1)), none⟩ ::
⟨(some 8), .mv (.tmp 26), none⟩ ::
[])))))))
(.plain (
⟨(some 38), .mv (.tmp 5), none⟩ ::
⟨(some 39), .mv (.tmp 1), none⟩ ::
⟨(some 40), .mv (.tmp 6), none⟩ ::
⟨(some 41), .iaS 1 (.tmp 39) (.tmp 40), none⟩ ::
⟨(some 42), .load false 1 (.tmp 41), none⟩ ::
⟨(some 43), .app 1 1 (.tmp 38) (.tmp 42), none⟩ ::
⟨(some 5), .mv (.tmp 43), none⟩ ::
[])))))
(.plain (
⟨(some 15), .mv (.tmp 6), none⟩ ::
⟨(some 16), .bin .add (.tmp 15) (.const (.int .i64 1)), none⟩ ::
⟨(some 6), .mv (.tmp 16), none⟩ ::
[])))))))
(.seq
(.plain (
⟨(some 44), .mv (.tmp 5), none⟩ ::
⟨(some 4), .mv (.tmp 44), none⟩ ::
[]))
.ret))))
theorem prep82 : prepFunc Try.prog 82 = some F82 := by kernel_rfl

-- indenture/indentureref18.Leaf
def F83 : AFunc where
  ntmps := 7
  nparams := 1
  results := [(2, none)]
  code :=
(.seq
(.plain (
⟨(some 1), .box 24 (.tmp 0), none⟩ ::
⟨(some 2), .mv (.const (.slice none 0 0)), none⟩ ::
[]))
(.seq
(.plain (
⟨(some 3), .load true 32 (.tmp 1), none⟩ ::
⟨(some 4), .callF 93 [(.tmp 3)], none⟩ ::
⟨(some 5), .bsl 1 [(.tmp 4)], none⟩ ::
⟨(some 6), .callF 82 [(.const (.int .u8 76)), (.tmp 5)], none⟩ ::
⟨(some 2), .mv (.tmp 6), none⟩ ::
[]))
.ret))
theorem prep83 : prepFunc Try.prog 83 = some F83 := by kernel_rfl

-- indenture/indentureref18.Half
def F84 : AFunc where
  ntmps := 11
  nparams := 1
  results := [(2, none)]
  code :=
(.seq
(.plain (
⟨(some 2), .mv (.const (.int .i64 0)), none⟩ ::
[]))
(.seq
(.plain (
⟨(some 3), .mv (.const (.int .i64 1)), none⟩ ::
[]))
(.seq
(.block 0
(.loop
(.seq
(.seq
(.plain (
⟨(some 4), .mv (.tmp 3), none⟩ ::
⟨(some 5), .bin .mul (.const (.int .i64 2)) (.tmp 4), none⟩ ::
⟨(some 6), .mv (.tmp 0), none⟩ ::
⟨(some 7), .bin .lss (.tmp 5) (.tmp 6), none⟩ ::
[]))
(.cond (.tmp 7)
.skip
(.exit 0)))
(.block 1
(.plain (
⟨(some 8), .mv (.tmp 3), none⟩ ::
⟨(some 9), .bin .mul (.const (.int .i64 2)) (.tmp 8), none⟩ ::
⟨(some 3), .mv (.tmp 9), none⟩ ::
[]))))))
(.seq
(.plain (
⟨(some 10), .mv (.tmp 3), none⟩ ::
⟨(some 2), .mv (.tmp 10), none⟩ ::
[]))
.ret))))
theorem prep84 : prepFunc Try.prog 84 = some F84 := by kernel_rfl

-- indenture/indentureref18.Node
def F85 : AFunc where
  ntmps := 11
  nparams := 2
  results := [(4, none)]
  code :=
(.seq
(.plain (
⟨(some 2), .box 24 (.tmp 0), none⟩ ::
⟨(some 3), .box 24 (.tmp 1), none⟩ ::
⟨(some 4), .mv (.const (.slice none 0 0)), none⟩ ::
[]))
(.seq
(.draw (
⟨(some 5), .load true 32 (.tmp 2), none⟩ ::
⟨(some 6), .callF 93 [(.tmp 5)], none⟩ ::
⟨(some 7), .load true 32 (.tmp 3), none⟩ ::
⟨(some 8), .callF 93 [(.tmp 7)], none⟩ ::
⟨(some 9), .bsl 1 [(.tmp 6), (.tmp 8)], none⟩ ::
⟨(some 10), .callF 82 [(.const (.int .u8 78)), (.tmp 9)], none⟩ ::
⟨(some 4), .mv (.tmp 10), none⟩ ::
[])
(⟨0, [], []⟩ :: ⟨2, [], []⟩ :: ⟨1, [], [2]⟩ :: ⟨3, [], []⟩ :: ⟨4, [], []⟩ :: ⟨5, [], []⟩ :: ⟨6, [], []⟩ :: []))
.ret))
theorem prep85 : prepFunc Try.prog 85 = some F85 := by kernel_rfl

-- (*indenture/codec.Writer).put
def F86 : AFunc where
  ntmps := 20
  nparams := 3
  results := []
  code :=
(.seq
(.seq
(.plain (
⟨(some 6), .mv (.tmp 1), none⟩ ::
⟨(some 7), .un .not (.tmp 6), none⟩ ::
[]))
(.cond (.tmp 7)
(.seq
(.plain (
⟨(some 8), .mv (.tmp 0), none⟩ ::
⟨(some 9), .nilc (.tmp 8), none⟩ ::
⟨(some 10), .fa 1 (.tmp 9), none⟩ ::
⟨none, .store 1 (.tmp 10) (.const (.int .i64 10)), none⟩ ::
[]))
.ret)
.skip))
(.plain (
⟨(some 11), .mv (.tmp 0), none⟩ ::
⟨(some 12), .mv (.tmp 0), none⟩ ::
⟨(some 13), .nilc (.tmp 12), none⟩ ::
⟨(some 14), .fa 0 (.tmp 13), none⟩ ::
⟨(some 15), .load false 1 (.tmp 14), none⟩ ::
⟨(some 16), .mv (.tmp 2), none⟩ ::
⟨(some 17), .app 1 1 (.tmp 15) (.tmp 16), none⟩ ::
⟨(some 18), .nilc (.tmp 11), none⟩ ::
⟨(some 19), .fa 0 (.tmp 18), none⟩ ::
⟨none, .store 1 (.tmp 19) (.tmp 17), none⟩ ::
[])))
theorem prep86 : prepFunc Try.prog 86 = some F86 := by kernel_rfl

-- math/bits.Len32
def F87 : AFunc where
  ntmps := 19
  nparams := 1
  results := [(2, none)]
  code :=
(.seq
(.plain (
⟨(some 2), .mv (.const (.int .i64 0)), none⟩ ::
[]))
(.seq
(.seq
(.plain (
⟨(some 3), .mv (.tmp 0), none⟩ ::
⟨(some 4), .bin .geq (.tmp 3) (.const (.int .u32 65536)), none⟩ ::
[]))
(.cond (.tmp 4)
(.seq
(.plain (
⟨(some 5), .mv (.tmp 0), none⟩ ::
⟨(some 6), .bin .shr (.tmp 5) (.const (.int .u64 16)), none⟩ ::
⟨(some 0), .mv (.tmp 6), none⟩ ::
[]))
(.plain (
⟨(some 2), .mv (.const (.int .i64 16)), none⟩ ::
[])))
.skip))
(.seq
(.seq
(.plain (
⟨(some 7), .mv (.tmp 0), none⟩ ::
⟨(some 8), .bin .geq (.tmp 7) (.const (.int .u32 256)), none⟩ ::
[]))
(.cond (.tmp 8)
(.seq
(.plain (
⟨(some 9), .mv (.tmp 0), none⟩ ::
⟨(some 10), .bin .shr (.tmp 9) (.const (.int .u64 8)), none⟩ ::
⟨(some 0), .mv (.tmp 10), none⟩ ::
[]))
(.plain (
⟨(some 11), .mv (.tmp 2), none⟩ ::
⟨(some 12), .bin .add (.tmp 11) (.const (.int .i64 8)), none⟩ ::
⟨(some 2), .mv (.tmp 12), none⟩ ::
[])))
.skip))
(.seq
(.plain (
⟨(some 13), .mv (.tmp 2), none⟩ ::
⟨(some 14), .mv (.tmp 0), none⟩ ::
⟨(some 15), .cvt .u8 (.tmp 14), none⟩ ::
⟨(some 16), .idxS (.const (.string ⟨#[0, 1, 2, 2, 3, 3, 3, 3, 4, 4, 4, 4, 4, 4, 4, 4, 5, 5, 5, 5, 5, 5, 5, 5, 5, 5, 5, 5, 5, 5, 5, 5, 6, 6, 6, 6, 6, 6, 6, 6, 6, 6, 6, 6, 6, 6, 6, 6, 6, 6, 6, 6, 6, 6, 6, 6, 6, 6, 6, 6, 6, 6, 6, 6, 7, 7, 7, 7, 7, 7, 7, 7, 7, 7, 7, 7, 7, 7, 7, 7, 7, 7, 7, 7, 7, 7, 7, 7, 7, 7, 7, 7, 7, 7, 7, 7, 7, 7, 7, 7, 7, 7, 7, 7, 7, 7, 7, 7, 7, 7, 7, 7, 7, 7, 7, 7, 7, 7, 7, 7, 7, 7, 7, 7, 7, 7, 7, 7, 8, 8, 8, 8, 8, 8, 8, 8, 8, 8, 8, 8, 8, 8, 8, 8, 8, 8, 8, 8, 8, 8, 8, 8, 8, 8, 8, 8, 8, 8, 8, 8, 8, 8, 8, 8, 8, 8, 8, 8, 8, 8, 8, 8, 8, 8, 8, 8, 8, 8, 8, 8, 8, 8, 8, 8, 8, 8, 8, 8, 8, 8, 8, 8, 8, 8, 8, 8, 8, 8, 8, 8, 8, 8, 8, 8, 8, 8, 8, 8, 8, 8, 8, 8, 8, 8, 8, 8, 8, 8, 8, 8, 8, 8, 8, 8, 8, 8, 8, 8, 8, 8, 8, 8, 8, 8, 8, 8, 8, 8, 8, 8, 8, 8, 8, 8, 8, 8, 8, 8, 8, 8, 8, 8, 8, 8, 8, 8]⟩)) (.tmp 15), none⟩ ::
⟨(some 17), .cvt .i64 (.tmp 16), none⟩ ::
⟨(some 18), .bin .add (.tmp 13) (.tmp 17), none⟩ ::
⟨(some 2), .mv (.tmp 18), none⟩ ::
[]))
.ret))))
theorem prep87 : prepFunc Try.prog 87 = some F87 := by kernel_rfl

-- math/bits.Len64
def F88 : AFunc where
  ntmps := 25
  nparams := 1
  results := [(2, none)]
  code :=
(.seq
(.plain (
⟨(some 2), .mv (.const (.int .i64 0)), none⟩ ::
[]))
(.seq
(.seq
(.plain (
⟨(some 3), .mv (.tmp 0), none⟩ ::
⟨(some 4), .bin .geq (.tmp 3) (.const (.int .u64 4294967296)), none⟩ ::
[]))
(.cond (.tmp 4)
(.seq
(.plain (
⟨(some 5), .mv (.tmp 0), none⟩ ::
⟨(some 6), .bin .shr (.tmp 5) (.const (.int .u64 32)), none⟩ ::
⟨(some 0), .mv (.tmp 6), none⟩ ::
[]))
(.plain (
⟨(some 2), .mv (.const (.int .i64 32)), none⟩ ::
[])))
.skip))
(.seq
(.seq
(.plain (
⟨(some 7), .mv (.tmp 0), none⟩ ::
⟨(some 8), .bin .geq (.tmp 7) (.const (.int .u64 65536)), none⟩ ::
[]))
(.cond (.tmp 8)
(.seq
(.plain (
⟨(some 9), .mv (.tmp 0), none⟩ ::
⟨(some 10), .bin .shr (.tmp 9) (.const (.int .u64 16)), none⟩ ::
⟨(some 0), .mv (.tmp 10), none⟩ ::
[]))
(.plain (
⟨(some 11), .mv (.tmp 2), none⟩ ::
⟨(some 12), .bin .add (.tmp 11) (.const (.int .i64 16)), none⟩ ::
⟨(some 2), .mv (.tmp 12), none⟩ ::
[])))
.skip))
(.seq
(.seq
(.plain (
⟨(some 13), .mv (.tmp 0), none⟩ ::
⟨(some 14), .bin .geq (.tmp 13) (.const (.int .u64 256)), none⟩ ::
[]))
(.cond (.tmp 14)
(.seq
(.plain (
⟨(some 15), .mv (.tmp 0), none⟩ ::
⟨(some 16), .bin .shr (.tmp 15) (.const (.int .u64 8)), none⟩ ::
⟨(some 0), .mv (.tmp 16), none⟩ ::
[]))
(.plain (
⟨(some 17), .mv (.tmp 2), none⟩ ::
⟨(some 18), .bin .add (.tmp 17) (.const (.int .i64 8)), none⟩ ::
⟨(some 2), .mv (.tmp 18), none⟩ ::
[])))
.skip))
(.seq
(.plain (
⟨(some 19), .mv (.tmp 2), none⟩ ::
⟨(some 20), .mv (.tmp 0), none⟩ ::
⟨(some 21), .cvt .u8 (.tmp 20), none⟩ ::
⟨(some 22), .idxS (.const (.string ⟨#[0, 1, 2, 2, 3, 3, 3, 3, 4, 4, 4, 4, 4, 4, 4, 4, 5, 5, 5, 5, 5, 5, 5, 5, 5, 5, 5, 5, 5, 5, 5, 5, 6, 6, 6, 6, 6, 6, 6, 6, 6, 6, 6, 6, 6, 6, 6, 6, 6, 6, 6, 6, 6, 6, 6, 6, 6, 6, 6, 6, 6, 6, 6, 6, 7, 7, 7, 7, 7, 7, 7, 7, 7, 7, 7, 7, 7, 7, 7, 7, 7, 7, 7, 7, 7, 7, 7, 7, 7, 7, 7, 7, 7, 7, 7, 7, 7, 7, 7, 7, 7, 7, 7, 7, 7, 7, 7, 7, 7, 7, 7, 7, 7, 7, 7, 7, 7, 7, 7, 7, 7, 7, 7, 7, 7, 7, 7, 7, 8, 8, 8, 8, 8, 8, 8, 8, 8, 8, 8, 8, 8, 8, 8, 8, 8, 8, 8, 8, 8, 8, 8, 8, 8, 8, 8, 8, 8, 8, 8, 8, 8, 8, 8, 8, 8, 8, 8, 8, 8, 8, 8, 8, 8, 8, 8, 8, 8, 8, 8, 8, 8, 8, 8, 8, 8, 8, 8, 8, 8, 8, 8, 8, 8, 8, 8, 8, 8, 8, 8, 8, 8, 8, 8, 8, 8, 8, 8, 8, 8, 8, 8, 8, 8, 8, 8, 8, 8, 8, 8, 8, 8, 8, 8, 8, 8, 8, 8, 8, 8, 8, 8, 8, 8, 8, 8, 8, 8, 8, 8, 8, 8, 8, 8, 8, 8, 8, 8, 8, 8, 8, 8, 8, 8, 8, 8, 8]⟩)) (.tmp 21), none⟩ ::
⟨(some 23), .cvt .i64 (.tmp 22), none⟩ ::
⟨(some 24), .bin .add (.tmp 19) (.tmp 23), none⟩ ::
⟨(some 2), .mv (.tmp 24), none⟩ ::
[]))
.ret)))))
theorem prep88 : prepFunc Try.prog 88 = some F88 := by kernel_rfl

-- indenture/sha.schedule
def F89 : AFunc where
  ntmps := 93
  nparams := 1
  results := [(2, (some (true, 64)))]
  code :=
(.seq
(.plain (
⟨(some 2), .alloc 130 (List.replicate 64 (.v (.int .u32 0))), none⟩ ::
[]))
(.seq
(.plain (
⟨(some 3), .alloc 130 (List.replicate 64 (.v (.int .u32 0))), none⟩ ::
[]))
(.seq
(.seq
(.plain (
⟨(some 10), .mv (.const (.int .i64 0)), none⟩ ::
[]))
(.block 0
(.loop
(.seq
(.plain (
⟨(some 11), .bin .lss (.tmp 10) (.const (.int .i64 16)), none⟩ ::
[]))
(.seq
(.cond (.tmp 11)
.skip
(.exit 0))
(.seq
(.block 1
(.seq
(.plain (
⟨(some 12), .mv (.tmp 10), none⟩ ::
⟨(some 4), .mv (.tmp 12), none⟩ ::
[]))
(.draw (
⟨(some 13), .mv (.tmp 4), none⟩ ::
⟨(some 14), .mv (.tmp 0), none⟩ ::
⟨(some 15), .mv (.tmp 4), none⟩ ::
⟨(some 16), .bin .mul (.const (.int .i64 4)) (.tmp 15), none⟩ ::
⟨(some 17), .iaS 1 (.tmp 14) (.tmp 16), none⟩ ::
⟨(some 18), .load false 1 (.tmp 17), none⟩ ::
⟨(some 19), .cvt .u32 (.tmp 18), none⟩ ::
⟨(some 20), .bin .shl (.tmp 19) (.const (.int .u64 24)), none⟩ ::
⟨(some 21), .mv (.tmp 0), none⟩ ::
⟨(some 22), .mv (.tmp 4), none⟩ ::
⟨(some 23), .bin .mul (.const (.int .i64 4)) (.tmp 22), none⟩ ::
⟨(some 24), .bin .add (.tmp 23) (.const (.int .i64 1)), none⟩ ::
⟨(some 25), .iaS 1 (.tmp 21) (.tmp 24), none⟩ ::
⟨(some 26), .load false 1 (.tmp 25), none⟩ ::
⟨(some 27), .cvt .u32 (.tmp 26), none⟩ ::
⟨(some 28), .bin .shl (.tmp 27) (.const (.int .u64 16)), none⟩ ::
⟨(some 29), .bin .or (.tmp 20) (.tmp 28), none⟩ ::
⟨(some 30), .mv (.tmp 0), none⟩ ::
⟨(some 31), .mv (.tmp 4), none⟩ ::
⟨(some 32), .bin .mul (.const (.int .i64 4)) (.tmp 31), none⟩ ::
⟨(some 33), .bin .add (.tmp 32) (.const (.int .i64 2)), none⟩ ::
⟨(some 34), .iaS 1 (.tmp 30) (.tmp 33), none⟩ ::
⟨(some 35), .load false 1 (.tmp 34), none⟩ ::
⟨(some 36), .cvt .u32 (.tmp 35), none⟩ ::
⟨(some 37), .bin .shl (.tmp 36) (.const (.int .u64 8)), none⟩ ::
⟨(some 38), .bin .or (.tmp 29) (.tmp 37), none⟩ ::
⟨(some 39), .mv (.tmp 0), none⟩ ::
⟨(some 40), .mv (.tmp 4), none⟩ ::
⟨(some 41), .bin .mul (.const (.int .i64 4)) (.tmp 40), none⟩ ::
⟨(some 42), .bin .add (.tmp 41) (.const (.int .i64 3)), none⟩ ::
⟨(some 43), .iaS 1 (.tmp 39) (.tmp 42), none⟩ ::
⟨(some 44), .load false 1 (.tmp 43), none⟩ ::
⟨(some 45), .cvt .u32 (.tmp 44), none⟩ ::
⟨(some 46), .bin .or (.tmp 38) (.tmp 45), none⟩ ::
⟨(some 47), .iaA 1 64 (.tmp 3) (.tmp 13), none⟩ ::
⟨none, .store 1 (.tmp 47) (.tmp 46), none⟩ ::
[])
(⟨0, [], []⟩ :: ⟨1, [], []⟩ :: ⟨2, [], []⟩ :: ⟨3, [], []⟩ :: ⟨4, [], []⟩ :: ⟨5, [], []⟩ :: ⟨6, [], []⟩ :: ⟨7, [], []⟩ :: ⟨8, [], []⟩ :: ⟨9, [], []⟩ :: ⟨10, [], []⟩ :: ⟨11, [], []⟩ :: ⟨12, [], []⟩ :: ⟨13, [], []⟩ :: ⟨14, [], []⟩ :: ⟨15, [], []⟩ :: ⟨16, [], []⟩ :: ⟨17, [], []⟩ :: ⟨18, [], []⟩ :: ⟨19, [], []⟩ :: ⟨20, [], []⟩ :: ⟨21, [], []⟩ :: ⟨22, [], []⟩ :: ⟨23, [], []⟩ :: ⟨24, [], []⟩ :: ⟨25, [], []⟩ :: ⟨26, [], []⟩ :: ⟨27, [], []⟩ :: ⟨28, [], []⟩ :: ⟨29, [], []⟩ :: ⟨30, [], []⟩ :: ⟨31, [], []⟩ :: ⟨32, [], []⟩ :: ⟨33, [], []⟩ :: ⟨34, [], []⟩ :: ⟨35, [], []⟩ :: []))))
(.plain (
⟨(some 48), .bin .add (.tmp 10) (.const (.int .i64 1)), none⟩ ::
⟨(some 10), .mv (.tmp 48), none⟩ ::
[]))))))))
(.seq
(.seq
(.plain (
⟨(some 5), .mv (.const (.int .i64 16)), none⟩ ::
[]))
(.block 2
(.loop
(.seq
(.seq
(.plain (
⟨(some 49), .mv (.tmp 5), none⟩ ::
⟨(some 50), .bin .lss (.tmp 49) (.const (.int .i64 64)), none⟩ ::
[]))
(.cond (.tmp 50)
.skip
(.exit 2)))
(.seq
(.block 3
(.seq
(.draw (
⟨(some 53), .mv (.tmp 5), none⟩ ::
⟨(some 54), .bin .sub (.tmp 53) (.const (.int .i64 15)), none⟩ ::
⟨(some 55), .iaA 1 64 (.tmp 3) (.tmp 54), none⟩ ::
⟨(some 56), .load false 1 (.tmp 55), none⟩ ::
⟨(some 57), .mv (.tmp 5), none⟩ ::
⟨(some 58), .bin .sub (.tmp 57) (.const (.int .i64 2)), none⟩ ::
⟨(some 59), .iaA 1 64 (.tmp 3) (.tmp 58), none⟩ ::
⟨(some 60), .load false 1 (.tmp 59), none⟩ ::
⟨(some 6), .mv (.tmp 56), none⟩ ::
⟨(some 7), .mv (.tmp 60), none⟩ ::
[])
(⟨0, [], []⟩ :: ⟨1, [], []⟩ :: ⟨2, [], []⟩ :: ⟨3, [], []⟩ :: ⟨4, [], []⟩ :: ⟨5, [], []⟩ :: ⟨6, [], []⟩ :: ⟨7, [], []⟩ :: ⟨8, [], []⟩ :: ⟨9, [], []⟩ :: []))
(.seq
(.plain (
⟨(some 61), .mv (.tmp 6), none⟩ ::
⟨(some 62), .callF 91 [(.tmp 61), (.const (.int .i64 (-7)))], none⟩ ::
⟨(some 63), .mv (.tmp 6), none⟩ ::
⟨(some 64), .callF 91 [(.tmp 63), (.const (.int .i64 (-18)))], none⟩ ::
⟨(some 65), .bin .xor (.tmp 62) (.tmp 64), none⟩ ::
⟨(some 66), .mv (.tmp 6), none⟩ ::
⟨(some 67), .bin .shr (.tmp 66) (.const (.int .u64 3)), none⟩ ::
⟨(some 68), .bin .xor (.tmp 65) (.tmp 67), none⟩ ::
⟨(some 8), .mv (.tmp 68), none⟩ ::
[]))
(.seq
(.plain (
⟨(some 69), .mv (.tmp 7), none⟩ ::
⟨(some 70), .callF 91 [(.tmp 69), (.const (.int .i64 (-17)))], none⟩ ::
⟨(some 71), .mv (.tmp 7), none⟩ ::
⟨(some 72), .callF 91 [(.tmp 71), (.const (.int .i64 (-19)))], none⟩ ::
⟨(some 73), .bin .xor (.tmp 70) (.tmp 72), none⟩ ::
⟨(some 74), .mv (.tmp 7), none⟩ ::
⟨(some 75), .bin .shr (.tmp 74) (.const (.int .u64 10)), none⟩ ::
⟨(some 76), .bin .xor (.tmp 73) (.tmp 75), none⟩ ::
⟨(some 9), .mv (.tmp 76), none⟩ ::
[]))
(.draw (
⟨(some 77), .mv (.tmp 5), none⟩ ::
⟨(some 78), .mv (.tmp 5), none⟩ ::
⟨(some 79), .bin .sub (.tmp 78) (.const (.int .i64 16)), none⟩ ::
⟨(some 80), .iaA 1 64 (.tmp 3) (.tmp 79), none⟩ ::
⟨(some 81), .load false 1 (.tmp 80), none⟩ ::
⟨(some 82), .mv (.tmp 8), none⟩ ::
⟨(some 83), .bin .add (.tmp 81) (.tmp 82), none⟩ ::
⟨(some 84), .mv (.tmp 5), none⟩ ::
⟨(some 85), .bin .sub (.tmp 84) (.const (.int .i64 7)), none⟩ ::
⟨(some 86), .iaA 1 64 (.tmp 3) (.tmp 85), none⟩ ::
⟨(some 87), .load false 1 (.tmp 86), none⟩ ::
⟨(some 88), .bin .add (.tmp 83) (.tmp 87), none⟩ ::
⟨(some 89), .mv (.tmp 9), none⟩ ::
⟨(some 90), .bin .add (.tmp 88) (.tmp 89), none⟩ ::
⟨(some 91), .iaA 1 64 (.tmp 3) (.tmp 77), none⟩ ::
⟨none, .store 1 (.tmp 91) (.tmp 90), none⟩ ::
[])
(⟨0, [], []⟩ :: ⟨1, [], []⟩ :: ⟨2, [], []⟩ :: ⟨3, [], []⟩ :: ⟨4, [], []⟩ :: ⟨5, [], []⟩ :: ⟨6, [], []⟩ :: ⟨7, [], []⟩ :: ⟨8, [], []⟩ :: ⟨9, [], []⟩ :: ⟨10, [], []⟩ :: ⟨11, [], []⟩ :: ⟨12, [], []⟩ :: ⟨13, [], []⟩ :: ⟨14, [], []⟩ :: ⟨15, [], []⟩ :: []))))))
(.plain (
⟨(some 51), .mv (.tmp 5), none⟩ ::
⟨(some 52), .bin .add (.tmp 51) (.const (.int .i64 1)), none⟩ ::
⟨(some 5), .mv (.tmp 52), none⟩ ::
[])))))))
(.seq
(.plain (
⟨(some 92), .load true 64 (.tmp 3), none⟩ ::
⟨none, .store 64 (.tmp 2) (.tmp 92), none⟩ ::
[]))
.ret)))))
theorem prep89 : prepFunc Try.prog 89 = some F89 := by kernel_rfl

-- indenture/sha.rounds
def F90 : AFunc where
  ntmps := 2
  nparams := 0
  results := [(0, (some (true, 64)))]
  code :=
(.seq
(.plain (
⟨(some 0), .alloc 130 (List.replicate 64 (.v (.int .u32 0))), none⟩ ::
[]))
(.seq
(.plain (
⟨(some 1), .bld (List.replicate 64 (.v (.int .u32 0))) [(0, 1, (.const (.int .u32 1116352408))), (1, 1, (.const (.int .u32 1899447441))), (2, 1, (.const (.int .u32 3049323471))), (3, 1, (.const (.int .u32 3921009573))), (4, 1, (.const (.int .u32 961987163))), (5, 1, (.const (.int .u32 1508970993))), (6, 1, (.const (.int .u32 2453635748))), (7, 1, (.const (.int .u32 2870763221))), (8, 1, (.const (.int .u32 3624381080))), (9, 1, (.const (.int .u32 310598401))), (10, 1, (.const (.int .u32 607225278))), (11, 1, (.const (.int .u32 1426881987))), (12, 1, (.const (.int .u32 1925078388))), (13, 1, (.const (.int .u32 2162078206))), (14, 1, (.const (.int .u32 2614888103))), (15, 1, (.const (.int .u32 3248222580))), (16, 1, (.const (.int .u32 3835390401))), (17, 1, (.const (.int .u32 4022224774))), (18, 1, (.const (.int .u32 264347078))), (19, 1, (.const (.int .u32 604807628))), (20, 1, (.const (.int .u32 770255983))), (21, 1, (.const (.int .u32 1249150122))), (22, 1, (.const (.int .u32 1555081692))), (23, 1, (.const (.int .u32 1996064986))), (24, 1, (.const (.int .u32 2554220882))), (25, 1, (.const (.int .u32 2821834349))), (26, 1, (.const (.int .u32 2952996808))), (27, 1, (.const (.int .u32 3210313671))), (28, 1, (.const (.int .u32 3336571891))), (29, 1, (.const (.int .u32 3584528711))), (30, 1, (.const (.int .u32 113926993))), (31, 1, (.const (.int .u32 338241895))), (32, 1, (.const (.int .u32 666307205))), (33, 1, (.const (.int .u32 773529912))), (34, 1, (.const (.int .u32 1294757372))), (35, 1, (.const (.int .u32 1396182291))), (36, 1, (.const (.int .u32 1695183700))), (37, 1, (.const (.int .u32 1986661051))), (38, 1, (.const (.int .u32 2177026350))), (39, 1, (.const (.int .u32 2456956037))), (40, 1, (.const (.int .u32 2730485921))), (41, 1, (.const (.int .u32 2820302411))), (42, 1, (.const (.int .u32 3259730800))), (43, 1, (.const (.int .u32 3345764771))), (44, 1, (.const (.int .u32 3516065817))), (45, 1, (.const (.int .u32 3600352804))), (46, 1, (.const (.int .u32 4094571909))), (47, 1, (.const (.int .u32 275423344))), (48, 1, (.const (.int .u32 430227734))), (49, 1, (.const (.int .u32 506948616))), (50, 1, (.const (.int .u32 659060556))), (51, 1, (.const (.int .u32 883997877))), (52, 1, (.const (.int .u32 958139571))), (53, 1, (.const (.int .u32 1322822218))), (54, 1, (.const (.int .u32 1537002063))), (55, 1, (.const (.int .u32 1747873779))), (56, 1, (.const (.int .u32 1955562222))), (57, 1, (.const (.int .u32 2024104815))), (58, 1, (.const (.int .u32 2227730452))), (59, 1, (.const (.int .u32 2361852424))), (60, 1, (.const (.int .u32 2428436474))), (61, 1, (.const (.int .u32 2756734187))), (62, 1, (.const (.int .u32 3204031479))), (63, 1, (.const (.int .u32 3329325298)))], none⟩ ::
⟨none, .store 64 (.tmp 0) (.tmp 1), none⟩ ::
[]))
.ret))
theorem prep90 : prepFunc Try.prog 90 = some F90 := by kernel_rfl

-- math/bits.RotateLeft32
def F91 : AFunc where
  ntmps := 17
  nparams := 2
  results := [(4, none)]
  code :=
(.seq
(.plain (
⟨(some 4), .mv (.const (.int .u32 0)), none⟩ ::
[]))
(.seq
(.plain (
⟨(some 6), .mv (.tmp 1), none⟩ ::
⟨(some 7), .cvt .u64 (.tmp 6), none⟩ ::
⟨(some 8), .bin .and (.tmp 7) (.const (.int .u64 31)), none⟩ ::
⟨(some 5), .mv (.tmp 8), none⟩ ::
[]))
(.seq
(.plain (
⟨(some 9), .mv (.tmp 0), none⟩ ::
⟨(some 10), .mv (.tmp 5), none⟩ ::
⟨(some 11), .bin .shl (.tmp 9) (.tmp 10), none⟩ ::
⟨(some 12), .mv (.tmp 0), none⟩ ::
⟨(some 13), .mv (.tmp 5), none⟩ ::
⟨(some 14), .bin .sub (.const (.int .u64 32)) (.tmp 13), none⟩ ::
⟨(some 15), .bin .shr (.tmp 12) (.tmp 14), none⟩ ::
⟨(some 16), .bin .or (.tmp 11) (.tmp 15), none⟩ ::
⟨(some 4), .mv (.tmp 16), none⟩ ::
[]))
.ret)))
theorem prep91 : prepFunc Try.prog 91 = some F91 := by kernel_rfl

end Go.Proofs.Ytapjikladjoicaa
