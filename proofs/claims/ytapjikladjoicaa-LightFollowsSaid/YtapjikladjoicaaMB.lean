/- Merged by program from smaller texts; what is proved stands in the last text of the claim. -/
import Derived.Test.YtapjikladjoicaaMA
import Derived.Test.YtapjikladjoicaaProg
import Derived.KernelRfl
set_option linter.all false
/-
  A list of operations; a region whose order is open: it may be gone through in one order, the canonical one.
-/
namespace Go.Av
open Go

structure AOper where
  dst : Option Nat
  op : AOp
  guard : Option (Nat × Bool)

def E (P : Program) (x : AOper) (f : Fr) (s : Hp) (K : AV → Hp → Prop) : Prop :=
  match x.guard with
  | none => G P x.op f s K
  | some (g, want) => match f g with
    | .v (.bool b) => if b = want then G P x.op f s K else K (.tup []) s
    | .tup [] => K (.tup []) s
    | _ => False

def T (P : Program) (x : AOper) (K : Fr → Hp → Prop) (f : Fr) (s : Hp) : Prop := E P x f s fun r s' => K (putF f x.dst r) s'

def runL (P : Program) : List AOper → (Fr → Hp → Prop) → Fr → Hp → Prop
  | [], K => K
  | x :: r, K => T P x (runL P r K)

theorem E_mono {P : Program} {x : AOper} {f : Fr} {s : Hp} {K K' : AV → Hp → Prop} (hk : ∀ r s', K r s' → K' r s') (h : E P x f s K) : E P x f s K' := by
  unfold E at *
  cases hg : x.guard with
  | none => rw [hg] at h; exact G_mono hk h
  | some gw =>
    obtain ⟨g, want⟩ := gw
    rw [hg] at h
    simp only at h ⊢
    split at h
    · split at h
      · next hb => rw [if_pos hb]; exact G_mono hk h
      · next hb => rw [if_neg hb]; exact hk _ _ h
    · exact hk _ _ h
    · exact h.elim

theorem T_mono {P : Program} {x : AOper} {f : Fr} {s : Hp} {K K' : Fr → Hp → Prop} (hk : ∀ f s', K f s' → K' f s') (h : T P x K f s) : T P x K' f s := E_mono (fun _ _ h => hk _ _ h) h

/-! ### what an operation looks at -/

def tmpsOf (xs : List Operand) : List Nat := xs.filterMap fun | .tmp t => some t | _ => none

def AOp.operands : AOp → List Operand
  | .mv x | .box _ x | .boxR _ x | .b2s x | .b2sM x | .s2b x | .eqn _ x | .load _ _ x | .nilc x | .fa _ x | .fld _ _ _ x | .slc0 x | .len x | .lenT x | .un _ x | .cvt _ x | .ext x _ => [x]
  | .pick c a b => [c, a, b]
  | .alloc _ _ | .lenA _ => []
  | .store _ x y | .iaA _ _ x y | .iaS _ x y | .idxA _ _ _ x y | .idxS x y | .bin _ x y | .eqv _ _ x y | .eqb _ x y | .eqp _ x y | .app _ _ x y | .appM _ _ x y | .mm _ _ x y | .mks _ _ _ x y | .cpy _ x y => [x, y]
  | .bld _ ps => ps.map fun p => p.2.2
  | .bsl _ xs => xs
  | .bslM _ xs => xs
  | .slc _ x lo hi | .slcA _ _ x lo hi _ | .slcR _ _ x lo hi | .slcS x lo hi => x :: (lo.toList ++ hi.toList)
  | .callF _ args => args

def AOper.reads (x : AOper) : List Nat := tmpsOf x.op.operands ++ (match x.guard with | some (g, _) => [g] | none => [])

theorem ev_congr {f f' : Fr} {xs : List Operand} (h : ∀ t ∈ tmpsOf xs, f t = f' t) {x : Operand} (hx : x ∈ xs) : ev f x = ev f' x := by
  cases x <;> first
    | rfl
    | exact h _ (List.mem_filterMap.2 ⟨_, hx, rfl⟩)

theorem fillG_congr {f f' : Fr} {Kc : List AV → Prop} : ∀ (ps : List (Nat × Nat × Operand)) (cells : List AV), (∀ p ∈ ps, ev f p.2.2 = ev f' p.2.2) → (fillG f cells ps Kc ↔ fillG f' cells ps Kc)
  | [], _, _ => Iff.rfl
  | (off, sz, x) :: r, cells, h => by
    have hx : ev f x = ev f' x := h _ (List.mem_cons_self)
    simp only [fillG, hx]
    rw [fillG_congr r _ (fun p hp => h p (List.mem_cons_of_mem _ hp))]

theorem bnd_congr {f f' : Fr} {x : Option Operand} (h : ∀ y ∈ x.toList, ev f y = ev f' y) (d : Nat) : bnd f x d = bnd f' x d := by
  cases x with
  | none => rfl
  | some y => simp only [bnd, h y (by simp)]

theorem G_congr {P : Program} {op : AOp} {f f' : Fr} (h : ∀ t ∈ tmpsOf op.operands, f t = f' t) (s : Hp) (K : AV → Hp → Prop) : G P op f s K ↔ G P op f' s K := by
  have e : ∀ x ∈ op.operands, ev f x = ev f' x := fun x hx => ev_congr h hx
  cases op <;> simp only [AOp.operands, List.mem_cons, List.not_mem_nil, or_false, forall_eq_or_imp, forall_eq, List.mem_append] at e <;> simp only [G]
  case bld zero ps => exact fillG_congr ps zero (fun p hp => e _ (List.mem_map.2 ⟨p, hp, rfl⟩))
  case bsl k xs => rw [List.map_congr_left e]
  case bslM k xs => rw [List.map_congr_left e]
  case callF fn args => rw [List.map_congr_left e]
  case slc k x lo hi => simp only [e.1, bnd_congr (f := f) (f' := f') (x := lo) (fun y hy => e.2 y (.inl hy)), bnd_congr (f := f) (f' := f') (x := hi) (fun y hy => e.2 y (.inr hy))]
  case slcA k n x lo hi ro => simp only [e.1, bnd_congr (f := f) (f' := f') (x := lo) (fun y hy => e.2 y (.inl hy)), bnd_congr (f := f) (f' := f') (x := hi) (fun y hy => e.2 y (.inr hy))]
  case slcR k n x lo hi => simp only [e.1, bnd_congr (f := f) (f' := f') (x := lo) (fun y hy => e.2 y (.inl hy)), bnd_congr (f := f) (f' := f') (x := hi) (fun y hy => e.2 y (.inr hy))]
  case slcS x lo hi => simp only [e.1, bnd_congr (f := f) (f' := f') (x := lo) (fun y hy => e.2 y (.inl hy)), bnd_congr (f := f) (f' := f') (x := hi) (fun y hy => e.2 y (.inr hy))]
  all_goals first
    | simp only [e]
    | simp only [e.1, e.2]
    | simp only [e.1, e.2.1, e.2.2]
    | rfl

theorem E_congr {P : Program} {x : AOper} {f f' : Fr} (h : ∀ t ∈ x.reads, f t = f' t) (s : Hp) (K : AV → Hp → Prop) : E P x f s K ↔ E P x f' s K := by
  have h1 : ∀ t ∈ tmpsOf x.op.operands, f t = f' t := fun t ht => h t (List.mem_append_left _ ht)
  unfold E
  cases hg : x.guard with
  | none => exact G_congr h1 s K
  | some gw =>
    obtain ⟨g, want⟩ := gw
    have h2 : f g = f' g := h g (List.mem_append_right _ (by simp [hg]))
    simp only [h2]
    split
    · split
      · exact G_congr h1 s K
      · exact Iff.rfl
    · exact Iff.rfl
    · exact Iff.rfl

theorem putF_same (f : Fr) (d : Nat) (r : AV) : (putF f (some d) r) d = r := by simp [putF, upd]
theorem putF_ne (f : Fr) (d : Option Nat) (r : AV) (t : Nat) (h : d ≠ some t) : (putF f d r) t = f t := by
  cases d with
  | none => rfl
  | some d => simp [putF, upd, Ne.symm (fun e => h (by rw [e]) : d ≠ t)]
theorem putF_comm (f : Fr) (d e : Option Nat) (r u : AV) (h : ∀ t, d = some t → e ≠ some t) : putF (putF f d r) e u = putF (putF f e u) d r := by
  cases d with
  | none => rfl
  | some d =>
    cases e with
    | none => rfl
    | some e =>
      have hne : d ≠ e := fun he => h d rfl (by rw [he])
      funext t
      simp only [putF, upd]
      by_cases h1 : t = e <;> by_cases h2 : t = d <;> simp_all

theorem E_put {P : Program} {x : AOper} (d : Option Nat) (hd : ∀ t, d = some t → t ∉ x.reads) (f : Fr) (r : AV) (s : Hp) (K : AV → Hp → Prop) : E P x (putF f d r) s K ↔ E P x f s K :=
  E_congr (fun t ht => putF_ne f d r t (fun e => hd t e ht)) s K

/-! ### an object more changes nothing -/

theorem Hp.set_set_comm (s : Hp) {l l' : Nat} (h : l ≠ l') (o o' : Ob) : (s.set l o).set l' o' = (s.set l' o').set l o := by
  funext x
  simp only [Hp.set]
  by_cases h1 : x = l' <;> by_cases h2 : x = l <;> simp_all

theorem Hp.del_set_comm (s : Hp) {l l' : Nat} (h : l ≠ l') (o : Ob) : (s.set l o).del l' = (s.del l').set l o := by
  funext x
  simp only [Hp.set, Hp.del]
  by_cases h1 : x = l' <;> by_cases h2 : x = l <;> simp_all

theorem Hp.set_join (s : Hp) (l : Nat) (o : Ob) (h : s l = none) : s.join (Hp.emp.set l o) = s.set l o := by
  funext x
  simp only [Hp.join, Hp.set, Hp.emp]
  by_cases hx : x = l
  · subst hx; simp [h]
  · simp [hx]

theorem disj_single (s : Hp) (l : Nat) (o : Ob) : s.disj (Hp.emp.set l o) ↔ s l = none := by
  constructor
  · intro h
    rcases h l with h | h
    · exact h
    · simp [Hp.set] at h
  · intro h x
    by_cases hx : x = l
    · subst hx; exact .inl h
    · right; simp [Hp.set, hx, Hp.emp]

def Framed (l : Nat) (ob : Ob) (R : AV → Hp → Prop) : AV → Hp → Prop := fun r u => ∃ s', R r s' ∧ s' l = none ∧ u = s'.set l ob

theorem read_set (s : Hp) {l l' : Nat} (ob : Ob) (h : s l = none) {cs : List AV} (hr : s.read l' = some cs) : (s.set l ob).read l' = some cs := by
  have hne : l' ≠ l := by rintro rfl; simp [Hp.read, h] at hr
  simpa [Hp.read, Hp.set_ne _ _ hne] using hr

theorem srcF_set (s : Hp) {l : Nat} (ob : Ob) (h : s l = none) {k : Nat} {y : AV} {r : Nat × List AV} (hr : srcF s k y = some r) : srcF (s.set l ob) k y = some r := by
  unfold srcF at hr ⊢
  split
  · exact hr
  · simp only at hr
    split at hr
    · rename_i cs hcs; rw [read_set s ob h hcs]; exact hr
    · cases hr
  · simp only at hr
    split at hr
    · rename_i cs hcs; rw [read_set s ob h hcs]; exact hr
    · cases hr
  · rename_i h1 h2 h3
    split at hr
    · exact absurd rfl (h1 _ _)
    · exact absurd rfl (h2 _ _ _ _)
    · exact absurd rfl (h3 _ _ _ _)
    · cases hr

theorem G_frame {P : Program} {op : AOp} {f : Fr} {s : Hp} {R : AV → Hp → Prop} {l : Nat} {ob : Ob} (hl : s l = none) (h : G P op f s R) : G P op f (s.set l ob) (Framed l ob R) := by
  have fin : ∀ r, R r s → Framed l ob R r (s.set l ob) := fun r hr => ⟨s, hr, hl, rfl⟩
  have new : ∀ (l' : Nat) (o' : Ob) (r : AV), (s.set l ob) l' = none → (s l' = none → R r (s.set l' o')) → Framed l ob R r ((s.set l ob).set l' o') := fun l' o' r h1 h2 => by
    have hne : l ≠ l' := by rintro rfl; simp [Hp.set] at h1
    rw [Hp.set_ne _ _ (Ne.symm hne)] at h1
    exact ⟨_, h2 h1, by rw [Hp.set_ne _ _ hne]; exact hl, Hp.set_set_comm s hne ob o'⟩
  cases op <;> simp only [G] at h ⊢
  case callF fn args =>
    have := AC.frame (t := Hp.emp.set l ob) h ((disj_single s l ob).2 hl)
    rw [Hp.set_join s l ob hl] at this
    refine this.mono fun r u ⟨s', hR, hd, hu⟩ => ⟨s', hR, (disj_single s' l ob).1 hd, ?_⟩
    rw [hu, Hp.set_join s' l ob ((disj_single s' l ob).1 hd)]
  case bld zero parts => exact fillG_mono (fun cs hcs => fin _ hcs) _ _ h
  case alloc T zero => exact fun l' hl' => new l' _ _ hl' (h l')
  case box T x => exact ⟨h.1, fun l' hl' => new l' _ _ hl' (h.2 l')⟩
  case boxR T x => exact ⟨h.1, fun l' hl' => new l' _ _ hl' (h.2 l')⟩
  case mks k bytes z x y => split at h; (exact ⟨h.1, h.2.1, h.2.2.1, h.2.2.2.1, fun l' hl' => new l' _ _ hl' (h.2.2.2.2 l')⟩); (exact h.elim)
  case mm => split at h; (exact ⟨h.1, fin _ h.2⟩); (exact h.elim)
  case eqn neg x =>
    split at h
    · split at h
      · exact fin _ h
      · exact fin _ h
      · exact ⟨fun hx => fin _ (h.1 hx), fin _ h.2⟩
    · exact fin _ h
    · exact h.elim
  case bslM k xs =>
    refine ⟨h.1, ?_⟩
    split
    · next hn => rw [if_pos hn] at h; exact fin _ h.2
    · next hn => rw [if_neg hn] at h; exact fun l' hl' => new l' _ _ hl' (h.2 l')
  case b2sM x =>
    split at h
    case h_2 => exact h.elim
    rename_i m xs hsrc
    rw [srcF_set s ob hl hsrc]
    simp only
    split at h
    · exact fin _ h
    · exact h.elim
  case appM k bytes x y =>
    split at h
    case h_2 => exact h.elim
    rename_i m ys hsrc
    rw [srcF_set s ob hl hsrc]
    simp only
    split at h
    · refine ⟨h.1, h.2.1, h.2.2.1, h.2.2.2.1, ?_⟩
      have h3 := h.2.2.2.2
      split
      · next hn => rw [if_pos hn] at h3; exact fin _ h3
      · next hn => rw [if_neg hn] at h3; exact fun g cap sp h1 h2 h4 h6 => new g _ _ h1 (fun h5 => h3 g cap sp h5 h2 h4 h6)
    · next l' n cap k' he =>
      split at h
      case h_2 => exact h.elim
      rename_i cs hcs
      have hne : l' ≠ l := by rintro rfl; rw [hl] at hcs; cases hcs
      rw [Hp.set_ne _ _ hne, hcs]
      refine ⟨h.1, h.2.1, h.2.2.1, h.2.2.2.1, ?_⟩
      have h3 := h.2.2.2.2
      split
      · next hn => rw [if_pos hn] at h3; exact ⟨_, h3, by rw [Hp.set_ne _ _ (Ne.symm hne)]; exact hl, Hp.set_set_comm s (Ne.symm hne) ob _⟩
      · next hn => rw [if_neg hn] at h3; exact fun g cap sp h1 h2 h4 h6 => new g _ _ h1 (fun h5 => h3 g cap sp h5 h2 h4 h6)
    · exact h.elim
  case slcR k n x lo hi =>
    split at h
    · next l' off he =>
      split at h
      · refine ⟨h.1, h.2.1, h.2.2.1, ?_⟩
        have h3 := h.2.2.2
        split at h3
        · next cs hcs =>
          have hne : l' ≠ l := by rintro rfl; rw [hl] at hcs; cases hcs
          rw [Hp.set_ne _ _ hne, hcs]
          exact ⟨h3.1, fin _ h3.2⟩
        · exact h3.elim
      · exact h.elim
    · exact h.elim
  case cpy k x y =>
    split at h
    · next l' off n k' ys ow he hey =>
      refine ⟨h.1, h.2.1, ?_⟩
      have h3 := h.2.2
      split at h3
      · next cs hcs =>
        have hne : l' ≠ l := by rintro rfl; rw [hl] at hcs; cases hcs
        rw [Hp.set_ne _ _ hne, hcs]
        exact ⟨h3.1, _, h3.2, by rw [Hp.set_ne _ _ (Ne.symm hne)]; exact hl, Hp.set_set_comm s (Ne.symm hne) ob _⟩
      · exact h3.elim
    · next l' n cap k' ys ow he hey =>
      refine ⟨h.1, h.2.1, ?_⟩
      have h3 := h.2.2
      split at h3
      · next cs hcs =>
        have hne : l' ≠ l := by rintro rfl; rw [hl] at hcs; cases hcs
        rw [Hp.set_ne _ _ hne, hcs]
        exact ⟨h3.1, _, h3.2, by rw [Hp.set_ne _ _ (Ne.symm hne)]; exact hl, Hp.set_set_comm s (Ne.symm hne) ob _⟩
      · exact h3.elim
    · exact h.elim
  case bsl k xs =>
    refine ⟨h.1, ?_⟩
    split
    · next hn => rw [if_pos hn] at h; exact fin _ h.2
    · next hn => rw [if_neg hn] at h; exact fun l' hl' => new l' _ _ hl' (h.2 l')
  case load agg n x =>
    split at h
    · split at h
      · next cs hcs => rw [read_set s ob hl hcs]; exact ⟨h.1, fin _ h.2⟩
      · exact h.elim
    · exact ⟨h.1, fin _ h.2⟩
    · exact h.elim
  case store n x y =>
    split at h
    · next l' off he =>
      split at h
      · next cs hcs =>
        have hne : l' ≠ l := by rintro rfl; rw [hl] at hcs; cases hcs
        rw [Hp.set_ne _ _ hne, hcs]
        exact ⟨h.1, h.2.1, _, h.2.2, by rw [Hp.set_ne _ _ (Ne.symm hne)]; exact hl, Hp.set_set_comm s (Ne.symm hne) ob _⟩
      · exact h.elim
    · exact h.elim
  case slcA k n x lo hi ro =>
    split at h
    · next l' off he =>
      split at h
      · refine ⟨h.1, h.2.1, h.2.2.1, ?_⟩
        have h3 := h.2.2.2
        split at h3
        · next cs hcs =>
          have hne : l' ≠ l := by rintro rfl; simp [Hp.read, hl] at hcs
          rw [read_set s ob hl hcs]
          refine ⟨h3.1, ?_⟩
          have h4 := h3.2
          split
          · next hr => rw [if_pos hr] at h4; exact ⟨_, h4, by rw [Hp.set_ne _ _ (Ne.symm hne)]; exact hl, Hp.set_set_comm s (Ne.symm hne) ob _⟩
          · next hr => rw [if_neg hr] at h4; exact ⟨h4.1, fin _ h4.2⟩
        · exact h3.elim
      · exact h.elim
    · exact h.elim
  case app k bytes x y =>
    split at h <;> try exact h.elim
    rename_i xs o ys o' _ _
    refine ⟨h.1, h.2.1, h.2.2.1, h.2.2.2.1, ?_⟩
    have h3 := h.2.2.2.2
    cases o <;> simp only at h3 ⊢
    case nil =>
      refine ⟨h3.1, ?_⟩
      split
      · next hn => rw [if_pos hn] at h3; exact fin _ h3.2
      · next hn => rw [if_neg hn] at h3; exact fun g c hg => new g _ _ hg (fun h => h3.2 g c h)
    case zero =>
      refine ⟨h3.1, ?_⟩
      split
      · next hn => rw [if_pos hn] at h3; exact fin _ h3.2
      · next hn => rw [if_neg hn] at h3; exact fun g c hg => new g _ _ hg (fun h => h3.2 g c h)
    case buf g c _ =>
      have hne : g ≠ l := by rintro rfl; rw [hl] at h3; cases h3.1
      refine ⟨by rw [Hp.set_ne _ _ hne]; exact h3.1, fun g' c' hg' => ?_⟩
      have hne' : g' ≠ l := by
        rintro rfl
        rcases hg' with h | h
        · exact hne h.symm
        · rw [Hp.set_same] at h; cases h
      have hg2 : g' = g ∨ s g' = none := hg'.imp id (fun h => by rwa [Hp.set_ne _ _ hne'] at h)
      refine ⟨_, h3.2 g' c' hg2, by rw [Hp.set_ne _ _ (Ne.symm hne'), Hp.del_ne _ (Ne.symm hne)]; exact hl, ?_⟩
      rw [Hp.del_set_comm s (Ne.symm hne) ob, Hp.set_set_comm _ (Ne.symm hne') ob]
  case pick => split at h; (exact fin _ h); (exact h.elim)
  case iaS k x i =>
    split at h
    · refine ⟨h.1, ?_⟩
      have h2 := h.2
      split at h2
      · exact ⟨h2.1, fin _ h2.2⟩
      · exact h2.elim
    · exact ⟨h.1, h.2.1, h.2.2.1, fin _ h.2.2.2⟩
    · exact ⟨h.1, h.2.1, h.2.2.1, fin _ h.2.2.2⟩
    · exact h.elim
  case idxS x i =>
    split at h
    · refine ⟨h.1, ?_⟩
      have h2 := h.2
      split at h2
      · exact fin _ h2
      · exact h2.elim
    · exact h.elim
  all_goals
    (repeat' split at h) <;> first
      | exact h.elim
      | exact fin _ h
      | exact ⟨h.1, fin _ h.2⟩
      | exact ⟨h.1, h.2.1, fin _ h.2.2⟩
      | exact ⟨h.1, h.2.1, h.2.2.1, fin _ h.2.2.2⟩
      | exact ⟨h.1, h.2.1, h.2.2.1, h.2.2.2.1, fin _ h.2.2.2.2⟩
      | exact ⟨h.1, h.2.1, h.2.2.1, h.2.2.2.1, h.2.2.2.2.1, fin _ h.2.2.2.2.2⟩

theorem E_frame {P : Program} {x : AOper} {f : Fr} {s : Hp} {R : AV → Hp → Prop} {l : Nat} {ob : Ob} (hl : s l = none) (h : E P x f s R) : E P x f (s.set l ob) (Framed l ob R) := by
  have fin : ∀ r, R r s → Framed l ob R r (s.set l ob) := fun r hr => ⟨s, hr, hl, rfl⟩
  unfold E at *
  cases hg : x.guard with
  | none => rw [hg] at h; exact G_frame hl h
  | some gw =>
    obtain ⟨g, want⟩ := gw
    rw [hg] at h
    simp only at h ⊢
    split at h
    · split at h
      · next hb => rw [if_pos hb]; exact G_frame hl h
      · next hb => rw [if_neg hb]; exact fin _ h
    · exact fin _ h
    · exact h.elim

/-! ### readers, adders -/

def isPure : AOp → Bool
  | .alloc _ _ | .box _ _ | .boxR _ _ | .load _ _ _ | .store _ _ _ | .bsl _ _ | .slcA _ _ _ _ _ _ | .slcR _ _ _ _ _ | .app _ _ _ _ | .callF _ _ | .mks _ _ _ _ _ | .cpy _ _ _ | .eqn _ _ | .bslM _ _ | .appM _ _ _ _ | .b2sM _ => false
  | _ => true

def isLoad : AOp → Bool
  | .load _ _ _ | .slcR _ _ _ _ _ | .b2sM _ => true
  | _ => false

def isAdder : AOp → Bool
  | .alloc _ _ | .box _ _ | .boxR _ _ | .bsl _ _ | .bslM _ _ | .mks _ _ _ _ _ => true
  | _ => false

theorem fillG_iff {f : Fr} : ∀ (ps : List (Nat × Nat × Operand)) (cells : List AV) {Kc0 : List AV → Prop}, fillG f cells ps Kc0 → ∃ r, ∀ Kc : List AV → Prop, fillG f cells ps Kc ↔ Kc r
  | [], cells, _, _ => ⟨cells, fun Kc => Iff.rfl⟩
  | (off, sz, x) :: r, cells, _, h => by
    obtain ⟨r', h'⟩ := fillG_iff r _ h.2.2
    exact ⟨r', fun Kc => ⟨fun hh => (h' Kc).1 hh.2.2, fun hh => ⟨h.1, h.2.1, (h' Kc).2 hh⟩⟩⟩

/-- a pure operation that is defined: what it yields hangs on the frame alone -/
theorem pure_iff {P : Program} {op : AOp} (h : isPure op = true) {f : Fr} {s0 : Hp} {K0 : AV → Hp → Prop} (hG : G P op f s0 K0) : ∃ r, ∀ (s : Hp) (K : AV → Hp → Prop), G P op f s K ↔ K r s := by
  cases op <;> simp only [isPure, Bool.false_eq_true] at h <;> simp only [G] at hG ⊢
  case pick => split at hG; (exact ⟨_, fun s K => Iff.rfl⟩); (exact hG.elim)
  case bld zero parts =>
    obtain ⟨r, hr⟩ := fillG_iff _ _ hG
    exact ⟨.agg r, fun s K => hr _⟩
  case mm => split at hG; (exact ⟨_, fun s K => ⟨fun h => h.2, fun h => ⟨hG.1, h⟩⟩⟩); (exact hG.elim)
  case iaS k x i =>
    split at hG
    · have h2 := hG.2
      split at h2
      · exact ⟨_, fun s K => ⟨fun h => h.2.2, fun h => ⟨hG.1, h2.1, h⟩⟩⟩
      · exact h2.elim
    · exact ⟨_, fun s K => ⟨fun h => h.2.2.2, fun h => ⟨hG.1, hG.2.1, hG.2.2.1, h⟩⟩⟩
    · exact ⟨_, fun s K => ⟨fun h => h.2.2.2, fun h => ⟨hG.1, hG.2.1, hG.2.2.1, h⟩⟩⟩
    · exact hG.elim
  case idxS x i =>
    split at hG
    · have h2 := hG.2
      split at h2
      · exact ⟨_, fun s K => ⟨fun h => h.2, fun h => ⟨hG.1, h⟩⟩⟩
      · exact h2.elim
    · exact hG.elim
  all_goals
    (repeat' split at hG) <;> first
      | exact hG.elim
      | exact ⟨_, fun s K => Iff.rfl⟩
      | exact ⟨_, fun s K => ⟨fun h => h.2, fun h => ⟨hG.1, h⟩⟩⟩
      | exact ⟨_, fun s K => ⟨fun h => h.2.2, fun h => ⟨hG.1, hG.2.1, h⟩⟩⟩
      | exact ⟨_, fun s K => ⟨fun h => h.2.2.2, fun h => ⟨hG.1, hG.2.1, hG.2.2.1, h⟩⟩⟩
      | exact ⟨_, fun s K => ⟨fun h => h.2.2.2.2, fun h => ⟨hG.1, hG.2.1, hG.2.2.1, hG.2.2.2.1, h⟩⟩⟩
      | exact ⟨_, fun s K => ⟨fun h => h.2.2.2.2.2, fun h => ⟨hG.1, hG.2.1, hG.2.2.1, hG.2.2.2.1, hG.2.2.2.2.1, h⟩⟩⟩

theorem load_iff {P : Program} {op : AOp} (h : isLoad op = true) {f : Fr} {s : Hp} {K0 : AV → Hp → Prop} (hG : G P op f s K0) : ∃ r, ∀ (K : AV → Hp → Prop), G P op f s K ↔ K r s := by
  cases op <;> simp only [isLoad, Bool.false_eq_true] at h <;> simp only [G] at hG ⊢
  case load =>
    split at hG
    · split at hG
      · exact ⟨_, fun K => ⟨fun h => h.2, fun h => ⟨hG.1, h⟩⟩⟩
      · exact hG.elim
    · exact ⟨_, fun K => ⟨fun h => h.2, fun h => ⟨hG.1, h⟩⟩⟩
    · exact hG.elim
  case slcR =>
    split at hG
    · split at hG
      · have h3 := hG.2.2.2
        split at h3
        · exact ⟨_, fun K => ⟨fun h => h.2.2.2.2, fun h => ⟨hG.1, hG.2.1, hG.2.2.1, h3.1, h⟩⟩⟩
        · exact h3.elim
      · exact hG.elim
    · exact hG.elim
  case b2sM =>
    split at hG
    case h_2 => exact hG.elim
    split at hG
    · exact ⟨_, fun K => Iff.rfl⟩
    · exact hG.elim

/-- an adder that is defined: a new object, or nothing but a value -/
theorem adder_iff {P : Program} {op : AOp} (h : isAdder op = true) {f : Fr} (hG : G P op f Hp.emp fun _ _ => True) :
    (∃ r, ∀ (s : Hp) (K : AV → Hp → Prop), G P op f s K ↔ K r s) ∨ ∃ (mk : Nat → AV) (ob : Nat → Ob), ∀ (s : Hp) (K : AV → Hp → Prop), G P op f s K ↔ ∀ l, s l = none → K (mk l) (s.set l (ob l)) := by
  cases op <;> simp only [isAdder, Bool.false_eq_true] at h <;> simp only [G] at hG ⊢
  case alloc T zero => exact .inr ⟨_, _, fun s K => Iff.rfl⟩
  case box T x => exact .inr ⟨_, fun _ => _, fun s K => ⟨fun h => h.2, fun h => ⟨hG.1, h⟩⟩⟩
  case boxR T x => exact .inr ⟨_, fun _ => _, fun s K => ⟨fun h => h.2, fun h => ⟨hG.1, h⟩⟩⟩
  case mks k bytes z x y => split at hG; (exact .inr ⟨fun g => .mb g _ _ k, fun _ => _, fun s K => ⟨fun h => h.2.2.2.2, fun h => ⟨hG.1, hG.2.1, hG.2.2.1, hG.2.2.2.1, h⟩⟩⟩); (exact hG.elim)
  case bsl k xs =>
    by_cases hn : xs.length = 0
    · simp only [if_pos hn] at hG ⊢
      exact .inl ⟨_, fun s K => ⟨fun h => h.2, fun h => ⟨hG.1, h⟩⟩⟩
    · simp only [if_neg hn] at hG ⊢
      exact .inr ⟨fun g => .sl (xs.map (ev f)) (.buf g xs.length), fun _ => .buf k xs.length xs.length, fun s K => ⟨fun h => h.2, fun h => ⟨hG.1, h⟩⟩⟩
  case bslM k xs =>
    by_cases hn : xs.length = 0
    · simp only [if_pos hn] at hG ⊢
      exact .inl ⟨_, fun s K => ⟨fun h => h.2, fun h => ⟨hG.1, h⟩⟩⟩
    · simp only [if_neg hn] at hG ⊢
      exact .inr ⟨fun g => .mb g xs.length xs.length k, fun _ => .cells (flat (xs.map (ev f))), fun s K => ⟨fun h => h.2, fun h => ⟨hG.1, h⟩⟩⟩

theorem adder_def {P : Program} {op : AOp} (h : isAdder op = true) {f : Fr} {s : Hp} {K : AV → Hp → Prop} (hG : G P op f s K) : G P op f Hp.emp fun _ _ => True := by
  cases op <;> simp only [isAdder, Bool.false_eq_true] at h <;> simp only [G] at hG ⊢
  case alloc T zero => exact fun _ _ => trivial
  case box T x => exact ⟨hG.1, fun _ _ => trivial⟩
  case boxR T x => exact ⟨hG.1, fun _ _ => trivial⟩
  case mks => split at hG; (exact ⟨hG.1, hG.2.1, hG.2.2.1, hG.2.2.2.1, fun _ _ => trivial⟩); (exact hG.elim)
  case bsl k xs => refine ⟨hG.1, ?_⟩; split; (trivial); (exact fun _ _ => trivial)
  case bslM k xs => refine ⟨hG.1, ?_⟩; split; (trivial); (exact fun _ _ => trivial)

def Def (P : Program) (x : AOper) (f : Fr) : Prop := E P x f Hp.emp fun _ _ => True

theorem E_pure_iff {P : Program} {x : AOper} (h : isPure x.op = true) {f : Fr} {s0 : Hp} {K0 : AV → Hp → Prop} (hE : E P x f s0 K0) : ∃ r, ∀ (s : Hp) (K : AV → Hp → Prop), E P x f s K ↔ K r s := by
  unfold E at *
  cases hg : x.guard with
  | none => rw [hg] at hE; exact pure_iff h hE
  | some gw =>
    obtain ⟨g, want⟩ := gw
    rw [hg] at hE
    simp only at hE ⊢
    split at hE
    · split at hE
      · next hb => simp only [if_pos hb]; exact pure_iff h hE
      · next hb => simp only [if_neg hb]; exact ⟨_, fun s K => Iff.rfl⟩
    · exact ⟨_, fun s K => Iff.rfl⟩
    · exact hE.elim

theorem E_load_iff {P : Program} {x : AOper} (h : isLoad x.op = true) {f : Fr} {s : Hp} {K0 : AV → Hp → Prop} (hE : E P x f s K0) : ∃ r, ∀ (K : AV → Hp → Prop), E P x f s K ↔ K r s := by
  unfold E at *
  cases hg : x.guard with
  | none => rw [hg] at hE; exact load_iff h hE
  | some gw =>
    obtain ⟨g, want⟩ := gw
    rw [hg] at hE
    simp only at hE ⊢
    split at hE
    · split at hE
      · next hb => simp only [if_pos hb]; exact load_iff h hE
      · next hb => simp only [if_neg hb]; exact ⟨_, fun K => Iff.rfl⟩
    · exact ⟨_, fun K => Iff.rfl⟩
    · exact hE.elim

theorem E_adder_def {P : Program} {x : AOper} (h : isAdder x.op = true) {f : Fr} {s : Hp} {K : AV → Hp → Prop} (hE : E P x f s K) : Def P x f := by
  unfold Def
  unfold E at *
  cases hg : x.guard with
  | none => rw [hg] at hE; exact adder_def h hE
  | some gw =>
    obtain ⟨g, want⟩ := gw
    rw [hg] at hE
    simp only at hE ⊢
    split at hE
    · split at hE
      · next hb => rw [if_pos hb]; exact adder_def h hE
      · next hb => rw [if_neg hb]; trivial
    · trivial
    · exact hE.elim

theorem E_adder_iff {P : Program} {x : AOper} (h : isAdder x.op = true) {f : Fr} (hE : Def P x f) :
    (∃ r, ∀ (s : Hp) (K : AV → Hp → Prop), E P x f s K ↔ K r s) ∨ ∃ (mk : Nat → AV) (ob : Nat → Ob), ∀ (s : Hp) (K : AV → Hp → Prop), E P x f s K ↔ ∀ l, s l = none → K (mk l) (s.set l (ob l)) := by
  unfold Def at hE
  unfold E at *
  cases hg : x.guard with
  | none => rw [hg] at hE; exact adder_iff h hE
  | some gw =>
    obtain ⟨g, want⟩ := gw
    rw [hg] at hE
    simp only at hE ⊢
    split at hE
    · split at hE
      · next hb => simp only [if_pos hb]; exact adder_iff h hE
      · next hb => simp only [if_neg hb]; exact .inl ⟨_, fun s K => Iff.rfl⟩
    · exact .inl ⟨_, fun s K => Iff.rfl⟩
    · exact hE.elim

end Go.Av
/-
  A region whose order is open, gone through in the canonical order, is gone through in every order.
-/
namespace Go.Av
open Go

structure CO where
  i : Nat
  pre : List Nat
  chk : List Nat

section
variable (P : Program) (xs : Nat → AOper)

def Chk (j : Nat) (f : Fr) (s : Hp) : Prop :=
  match (xs j).dst with
  | some d => E P (xs j) f s fun r _ => r = f d
  | none => True

def can (K : Fr → Hp → Prop) : List CO → Fr → Hp → Prop
  | [] => K
  | c :: r => fun f s => (∀ j ∈ c.pre, Def P (xs j) f) ∧ T P (xs c.i) (fun f' s' => (∀ j ∈ c.chk, Chk P xs j f' s') ∧ can K r f' s') f s

def clear (d : Option Nat) (l : List Nat) : Bool := match d with | some t => !l.contains t | none => true
def unlike (d e : Option Nat) : Bool := match d, e with | some t, some u => t != u | _, _ => true

/-- k stands ahead of i, and i may be taken first -/
def indep (k i : CO) (mid : List Nat) : Bool :=
  clear (xs k.i).dst (xs i.i).reads && clear (xs i.i).dst (xs k.i).reads && unlike (xs k.i).dst (xs i.i).dst &&
  i.chk.all (fun j => j == k.i || mid.contains j || (clear (xs k.i).dst (xs j).reads && unlike (xs k.i).dst (xs j).dst)) &&
  ((k.pre.isEmpty && k.chk.isEmpty && (isPure (xs k.i).op || (isLoad (xs k.i).op && ((isPure (xs i.i).op || isLoad (xs i.i).op || isAdder (xs i.i).op) || (i.chk.contains k.i && clear (xs k.i).dst (xs k.i).reads && (xs k.i).dst.isSome))))) ||
   (i.chk.isEmpty && (isPure (xs i.i).op || isAdder (xs i.i).op) && k.pre.contains i.i && k.pre.all (fun j => clear (xs i.i).dst (xs j).reads) &&
     k.chk.all (fun j => clear (xs i.i).dst (xs j).reads && unlike (xs i.i).dst (xs j).dst)))

variable {P xs}

theorem clear_spec {d : Option Nat} {l : List Nat} (h : clear d l = true) : ∀ t, d = some t → t ∉ l := by
  intro t ht; subst ht; simpa [clear] using h

theorem unlike_spec {d e : Option Nat} (h : unlike d e = true) : ∀ t, d = some t → e ≠ some t := by
  intro t ht he; subst ht; subst he; simp [unlike] at h

theorem Chk_put {j : Nat} {d : Option Nat} (h1 : clear d (xs j).reads = true) (h2 : unlike d (xs j).dst = true) (f : Fr) (r : AV) (s : Hp) : Chk P xs j (putF f d r) s ↔ Chk P xs j f s := by
  unfold Chk
  cases hd : (xs j).dst with
  | none => exact Iff.rfl
  | some dj =>
    simp only
    rw [E_put d (clear_spec h1), putF_ne f d r dj (by
      intro he
      exact unlike_spec h2 dj he hd)]

theorem Chk_frame {j : Nat} {f : Fr} {s : Hp} {l : Nat} {ob : Ob} (hl : s l = none) (h : Chk P xs j f s) : Chk P xs j f (s.set l ob) := by
  unfold Chk at *
  cases hd : (xs j).dst with
  | none => trivial
  | some dj =>
    rw [hd] at h
    exact E_mono (fun r u ⟨s', hr, _, _⟩ => hr) (E_frame hl h)

/-- what stands ahead of i may all be passed by i -/
def Pass (xs : Nat → AOper) (i : CO) : List CO → Prop
  | [] => True
  | k :: l1 => indep xs k i (l1.map (·.i)) = true ∧ Pass xs i l1

theorem bubble {K : Fr → Hp → Prop} (i : CO) (l2 : List CO) : ∀ (l1 : List CO), Pass xs i l1 → (l1.map (·.i)).Nodup → ∀ (f : Fr) (s : Hp), can P xs K (l1 ++ i :: l2) f s →
    T P (xs i.i) (fun f' s' => (∀ j ∈ i.chk, j ∉ l1.map (·.i) → Chk P xs j f' s') ∧ can P xs K (l1 ++ l2) f' s') f s
  | [], _, _, f, s, h => T_mono (fun f' s' hh => ⟨fun j hj _ => hh.1 j hj, hh.2⟩) h.2
  | k :: l1, hk, hnd, f, s, h => by
    have hki := hk.1
    have hnd1 : (l1.map (·.i)).Nodup := by simp only [List.map_cons, List.nodup_cons] at hnd; exact hnd.2
    have hknot : k.i ∉ l1.map (·.i) := by simp only [List.map_cons, List.nodup_cons] at hnd; exact hnd.1
    have ih := bubble (K := K) i l2 l1 hk.2 hnd1
    obtain ⟨hpre, hT⟩ := h
    simp only [indep, Bool.and_eq_true] at hki
    obtain ⟨⟨⟨⟨a1, a2⟩, a3⟩, a4⟩, hcase⟩ := hki
    have c1 := clear_spec a1
    have c2 := clear_spec a2
    have c3 := unlike_spec a3
    have a4' : ∀ j ∈ i.chk, j ≠ k.i → j ∉ l1.map (·.i) → clear (xs k.i).dst (xs j).reads = true ∧ unlike (xs k.i).dst (xs j).dst = true := fun j hj hne hnm => by
      have := List.all_eq_true.1 a4 j hj
      simp only [Bool.or_eq_true, beq_iff_eq, Bool.and_eq_true, List.contains_iff_mem] at this
      exact this.resolve_left (fun h => h.elim hne hnm)
    -- inside k, i comes first
    have hT1 : T P (xs k.i) (fun f' s' => (∀ j ∈ k.chk, Chk P xs j f' s') ∧ T P (xs i.i) (fun f'' s'' => (∀ j ∈ i.chk, j ∉ l1.map (·.i) → Chk P xs j f'' s'') ∧ can P xs K (l1 ++ l2) f'' s'') f' s') f s :=
      T_mono (fun f' s' hh => ⟨hh.1, ih f' s' hh.2⟩) hT
    clear hT ih
    simp only [Bool.or_eq_true, Bool.and_eq_true] at hcase
    rcases hcase with ⟨⟨hp0, hc0⟩, hcl⟩ | ⟨⟨⟨⟨hic, hicl⟩, hin⟩, hpa⟩, hca⟩
    · -- k is a reader
      have hp0' : k.pre = [] := List.isEmpty_iff.1 hp0
      have hc0' : k.chk = [] := List.isEmpty_iff.1 hc0
      -- the value, and what it takes to read it later
      have hfin : ∀ (r : AV) (u : AV) (s' : Hp), (∀ K', E P (xs k.i) f s' K' ↔ K' r s') →
          ((∀ j ∈ i.chk, j ∉ l1.map (·.i) → Chk P xs j (putF (putF f (xs k.i).dst r) (xs i.i).dst u) s') ∧ can P xs K (l1 ++ l2) (putF (putF f (xs k.i).dst r) (xs i.i).dst u) s') →
          (∀ j ∈ i.chk, j ∉ (k :: l1).map (·.i) → Chk P xs j (putF f (xs i.i).dst u) s') ∧ can P xs K (k :: l1 ++ l2) (putF f (xs i.i).dst u) s' := fun r u s' hr hM => by
        rw [putF_comm f _ _ r u c3] at hM
        refine ⟨fun j hj hjn => ?_, ?_⟩
        · simp only [List.map_cons, List.mem_cons, not_or] at hjn
          have := hM.1 j hj hjn.2
          obtain ⟨b1, b2⟩ := a4' j hj hjn.1 hjn.2
          rwa [Chk_put b1 b2] at this
        · refine ⟨by rw [hp0']; simp, ?_⟩
          unfold T
          rw [E_put _ c2]
          refine (hr _).2 ⟨by rw [hc0']; simp, hM.2⟩
      rcases hcl with hpure | ⟨hload, hcl2⟩
      · obtain ⟨r, hr⟩ := E_pure_iff hpure hT1
        have h1 := (hr s _).1 hT1
        have h2 := h1.2
        unfold T at h2 ⊢
        rw [E_put _ c1] at h2
        exact E_mono (fun u s' hM => hfin r u s' (fun K' => hr s' K') hM) h2
      · obtain ⟨r, hr⟩ := E_load_iff hload hT1
        have h1 := (hr _).1 hT1
        have h2 := h1.2
        unfold T at h2 ⊢
        rw [E_put _ c1] at h2
        rcases hcl2 with hri | ⟨⟨hmem, hself⟩, hsome⟩
        · rcases hri with hri | hadd
          case inr =>
            -- i adds an object: what k reads is as it was
            rcases E_adder_iff hadd (E_adder_def hadd h2) with ⟨u, hu⟩ | ⟨mk, ob, hu⟩
            · rw [hu] at h2 ⊢
              exact hfin r u s hr h2
            · rw [hu] at h2 ⊢
              intro l hl
              refine hfin r (mk l) _ ?_ (h2 l hl)
              have hk0 : E P (xs k.i) f s fun r' _ => r' = r := (hr _).2 rfl
              have hk1 : E P (xs k.i) f (s.set l (ob l)) fun r' _ => r' = r := E_mono (fun _ _ ⟨_, hh, _, _⟩ => hh) (E_frame (ob := ob l) hl hk0)
              obtain ⟨r2, hr2⟩ := E_load_iff hload hk1
              have hrr : r2 = r := (hr2 _).1 hk1
              subst hrr
              exact hr2
          -- both only read
          have hi : ∃ u, ∀ K' : AV → Hp → Prop, E P (xs i.i) f s K' ↔ K' u s := by
            rcases hri with hi | hi
            · obtain ⟨u, hu⟩ := E_pure_iff hi h2; exact ⟨u, fun K' => hu s K'⟩
            · exact E_load_iff hi h2
          obtain ⟨u, hu⟩ := hi
          rw [hu] at h2 ⊢
          exact hfin r u s hr h2
        · refine E_mono (fun u s' hM => ?_) h2
          have hck := hM.1 k.i (by simpa using hmem) hknot
          obtain ⟨dk, hdk⟩ := Option.isSome_iff_exists.1 hsome
          have hck2 : E P (xs k.i) f s' fun r' _ => r' = r := by
            have := hck
            rw [putF_comm f _ _ r u c3] at this
            unfold Chk at this
            rw [hdk] at this
            simp only at this
            rw [putF_same, ← hdk, E_put _ (clear_spec hself), E_put _ c2] at this
            exact this
          obtain ⟨r2, hr2⟩ := E_load_iff hload hck2
          have hrr : r2 = r := (hr2 _).1 hck2
          subst hrr
          exact hfin r2 u s' hr2 hM
    · -- k acts; i is pure, or adds
      have hic' : i.chk = [] := List.isEmpty_iff.1 hic
      have hdef : Def P (xs i.i) f := hpre i.i (by simpa using hin)
      have hform : (∃ r, ∀ (s : Hp) (K : AV → Hp → Prop), E P (xs i.i) f s K ↔ K r s) ∨ ∃ (mk : Nat → AV) (ob : Nat → Ob), ∀ (s : Hp) (K : AV → Hp → Prop), E P (xs i.i) f s K ↔ ∀ l, s l = none → K (mk l) (s.set l (ob l)) := by
        rcases hicl with hi | hi
        · exact .inl (E_pure_iff hi hdef)
        · exact E_adder_iff hi hdef
      have hpre' : ∀ u, ∀ j ∈ k.pre, Def P (xs j) (putF f (xs i.i).dst u) := fun u j hj => by
        unfold Def
        rw [E_put _ (clear_spec (List.all_eq_true.1 hpa j hj))]
        exact hpre j hj
      have hchk : ∀ j ∈ k.chk, ∀ (F : Fr) (u : AV) (S : Hp), Chk P xs j F S → Chk P xs j (putF F (xs i.i).dst u) S := fun j hj F u S hh => by
        have := List.all_eq_true.1 hca j hj
        simp only [Bool.and_eq_true] at this
        rw [Chk_put this.1 this.2]; exact hh
      unfold T at hT1
      rcases hform with ⟨u, hu⟩ | ⟨mk, ob, hu⟩
      · unfold T
        rw [hu]
        refine ⟨fun j hj => (by rw [hic'] at hj; cases hj), hpre' u, ?_⟩
        unfold T
        rw [E_put _ c2]
        refine E_mono (fun v s1 hh => ?_) hT1
        have h2 := hh.2
        rw [E_put _ c1, hu, putF_comm f _ _ v u c3] at h2
        refine ⟨fun j hj => ?_, h2.2⟩
        rw [← putF_comm f _ _ v u c3]
        exact hchk j hj _ _ _ (hh.1 j hj)
      · unfold T
        rw [hu]
        intro l hl
        refine ⟨fun j hj => (by rw [hic'] at hj; cases hj), hpre' (mk l), ?_⟩
        unfold T
        rw [E_put _ c2]
        refine E_mono (fun v S hS => ?_) (E_frame (ob := ob l) hl hT1)
        obtain ⟨s1, hh, hl1, rfl⟩ := hS
        have h2 := hh.2
        rw [E_put _ c1, hu] at h2
        have h3 := h2 l hl1
        rw [putF_comm f _ _ v (mk l) c3] at h3
        refine ⟨fun j hj => ?_, h3.2⟩
        rw [← putF_comm f _ _ v (mk l) c3]
        exact hchk j hj _ _ _ (Chk_frame hl1 (hh.1 j hj))

/-! ### every order -/

/-- what stands before what: for each operation the numbers of those, as a number's bits -/
def befGo (preds : Nat → List Nat) : Nat → List Nat → Nat → List Nat
  | 0, acc, _ => acc
  | k + 1, acc, n => befGo preds k (acc ++ [(preds n).foldl (fun m j => m ||| 2 ^ j ||| acc.getD j 0) 0]) (n + 1)

def dep (bs : List Nat) (c i : Nat) : Bool := (bs.getD i 0).testBit c

/-- what stands behind k: it hangs on k, or may pass it (and what is between) -/
def okRow (xs : Nat → AOper) (bs : List Nat) (k : CO) : List Nat → List CO → Bool
  | _, [] => true
  | mid, i :: r => (dep bs k.i i.i || indep xs k i mid) && okRow xs bs k (mid ++ [i.i]) r

def okPairs (xs : Nat → AOper) (bs : List Nat) : List CO → Bool
  | [] => true
  | k :: r => okRow xs bs k [] r && okPairs xs bs r

def predsOf (ops : Array Oper) (i : Nat) : List Nat :=
  match ops[i]? with
  | some o => (o.after.toList.filter fun e => Region.binds .any e).map (·.on)
  | none => []

def aAny (P : Program) (xs : Nat → AOper) (ops : Array Oper) (K : Fr → Hp → Prop) : Nat → Array Bool → Fr → Hp → Prop
  | 0, listed, f, s => Region.ready .any ops listed = [] ∧ K f s
  | fuel + 1, listed, f, s => (Region.ready .any ops listed = [] → K f s) ∧ ∀ i ∈ Region.ready .any ops listed, T P (xs i) (aAny P xs ops K fuel (listed.setIfInBounds i true)) f s

def Closed (ops : Array Oper) (listed : Array Bool) : Prop := ∀ i, i < ops.size → listed.getD i true = true → ∀ j ∈ predsOf ops i, listed.getD j false = true

theorem mem_preds {ops : Array Oper} {i j : Nat} : j ∈ predsOf ops i ↔ ∃ o, ops[i]? = some o ∧ ∃ e ∈ o.after, Region.binds .any e = true ∧ e.on = j := by
  unfold predsOf
  cases h : ops[i]? with
  | none => simp
  | some o =>
    simp only [List.mem_map, List.mem_filter, Array.mem_toList_iff, Option.some.injEq, exists_eq_left']
    constructor
    · rintro ⟨e, ⟨h1, h2⟩, h3⟩; exact ⟨e, h1, h2, h3⟩
    · rintro ⟨e, h1, h2, h3⟩; exact ⟨e, ⟨h1, h2⟩, h3⟩

theorem ready_iff {ops : Array Oper} {listed : Array Bool} {i : Nat} : i ∈ Region.ready .any ops listed ↔ listed.getD i true = false ∧ i < ops.size ∧ ∀ j ∈ predsOf ops i, listed.getD j false = true := by
  rw [mem_ready]
  constructor
  · rintro ⟨h0, o, ho, hall⟩
    refine ⟨h0, (Array.getElem?_eq_some_iff.1 ho).1, fun j hj => ?_⟩
    obtain ⟨o', ho', e, he, hb, rfl⟩ := mem_preds.1 hj
    rw [ho] at ho'
    obtain rfl := Option.some.inj ho'
    exact hall e he hb
  · rintro ⟨h0, hlt, hall⟩
    exact ⟨h0, ops[i], Array.getElem?_eq_getElem hlt, fun e he hb => hall _ (mem_preds.2 ⟨_, Array.getElem?_eq_getElem hlt, e, he, hb, rfl⟩)⟩

theorem foldl_bit (l : List Nat) (acc : List Nat) (c : Nat) : ∀ m, (l.foldl (fun m j => m ||| 2 ^ j ||| acc.getD j 0) m).testBit c = true → m.testBit c = true ∨ ∃ j ∈ l, c = j ∨ (acc.getD j 0).testBit c = true := by
  induction l with
  | nil => intro m h; exact .inl h
  | cons a l ih =>
    intro m h
    rw [List.foldl_cons] at h
    rcases ih _ h with h | ⟨j, hj, h⟩
    · simp only [Nat.testBit_or, Bool.or_eq_true] at h
      rcases h with (h | h) | h
      · exact .inl h
      · rw [Nat.testBit_two_pow] at h
        exact .inr ⟨a, List.mem_cons_self, .inl (by have := of_decide_eq_true h; exact this.symm)⟩
      · exact .inr ⟨a, List.mem_cons_self, .inr h⟩
    · exact .inr ⟨j, List.mem_cons_of_mem _ hj, h⟩

/-- each bit comes of a direct predecessor -/
def Bits (preds : Nat → List Nat) (bs : List Nat) : Prop := ∀ i c, dep bs c i = true → ∃ j ∈ preds i, c = j ∨ (dep bs c j = true ∧ j < i)

theorem befGo_bits {preds : Nat → List Nat} (hlt : ∀ i j, j ∈ preds i → j < i) : ∀ (k : Nat) (acc : List Nat) (n : Nat), acc.length = n → Bits preds acc → Bits preds (befGo preds k acc n)
  | 0, acc, n, _, h => h
  | k + 1, acc, n, hl, h => by
    refine befGo_bits hlt k _ (n + 1) (by simp [hl]) fun i c hc => ?_
    have hold : ∀ i, i < n → (acc ++ [(preds n).foldl (fun m j => m ||| 2 ^ j ||| acc.getD j 0) 0]).getD i 0 = acc.getD i 0 := fun i hi => by
      simp [List.getD, List.getElem?_append_left (show i < acc.length by omega)]
    unfold dep at hc ⊢
    rcases Nat.lt_trichotomy i n with hi | hi | hi
    · rw [hold i hi] at hc
      obtain ⟨j, hj, h1⟩ := h i c hc
      refine ⟨j, hj, h1.imp id fun h2 => ⟨?_, h2.2⟩⟩
      rw [hold j (by omega)]; exact h2.1
    · subst hi
      have he : (acc ++ [(preds i).foldl (fun m j => m ||| 2 ^ j ||| acc.getD j 0) 0]).getD i 0 = (preds i).foldl (fun m j => m ||| 2 ^ j ||| acc.getD j 0) 0 := by
        rw [← hl]; simp [List.getD]
      rw [he] at hc
      rcases foldl_bit _ _ _ _ hc with h1 | ⟨j, hj, h1⟩
      · simp at h1
      · refine ⟨j, hj, h1.imp id fun h2 => ⟨?_, hlt i j hj⟩⟩
        rw [hold j (hlt i j hj)]; exact h2
    · rw [List.getD_eq_getElem?_getD, List.getElem?_eq_none (by simp; omega)] at hc
      simp at hc

theorem dep_listed {ops : Array Oper} {listed : Array Bool} {bs : List Nat} (hb : Bits (predsOf ops) bs) (hc : Closed ops listed) (hsz : listed.size = ops.size) : ∀ (n c i : Nat), i ≤ n → dep bs c i = true → (∀ j ∈ predsOf ops i, listed.getD j false = true) → listed.getD c false = true := by
  intro n
  induction n with
  | zero =>
    intro c i hi h hp
    obtain ⟨j, hj, rfl | ⟨_, hlt⟩⟩ := hb i c h
    · exact hp _ hj
    · omega
  | succ n ih =>
    intro c i hi h hp
    obtain ⟨j, hj, rfl | ⟨hd, hlt⟩⟩ := hb i c h
    · exact hp _ hj
    · have hlj := hp j hj
      have hjl : j < listed.size := by
        rcases Nat.lt_or_ge j listed.size with h | h
        · exact h
        · simp [Array.getElem?_eq_none h] at hlj
      refine ih c j (by omega) hd (hc j (by omega) ?_)
      simpa [hjl] using hlj

theorem okRow_mem {bs : List Nat} {k i : CO} {l2 : List CO} : ∀ {l1 : List CO} {mid : List Nat}, okRow xs bs k mid (l1 ++ i :: l2) = true → dep bs k.i i.i = true ∨ indep xs k i (mid ++ l1.map (·.i)) = true
  | [], mid, h => by
    simp only [List.nil_append, okRow, Bool.and_eq_true, Bool.or_eq_true] at h
    simpa using h.1
  | j :: l1, mid, h => by
    simp only [List.cons_append, okRow, Bool.and_eq_true] at h
    have := okRow_mem h.2
    simpa using this

theorem okPairs_pass {bs : List Nat} {i : CO} {l2 : List CO} : ∀ {l1 : List CO}, okPairs xs bs (l1 ++ i :: l2) = true → (∀ k ∈ l1, dep bs k.i i.i = false) → Pass xs i l1
  | [], _, _ => trivial
  | k :: l1, h, hd => by
    simp only [List.cons_append, okPairs, Bool.and_eq_true] at h
    refine ⟨?_, okPairs_pass h.2 (fun k' hk' => hd k' (List.mem_cons_of_mem _ hk'))⟩
    have := okRow_mem h.1
    rw [hd k List.mem_cons_self] at this
    simpa using this

theorem indep_mid {k i : CO} {mid mid' : List Nat} (h : indep xs k i mid = true) (hm : ∀ j, j ∈ mid → j ∈ mid' ∨ (clear (xs k.i).dst (xs j).reads = true ∧ unlike (xs k.i).dst (xs j).dst = true)) : indep xs k i mid' = true := by
  simp only [indep, Bool.and_eq_true] at h ⊢
  obtain ⟨⟨⟨⟨a1, a2⟩, a3⟩, a4⟩, hc⟩ := h
  refine ⟨⟨⟨⟨a1, a2⟩, a3⟩, ?_⟩, hc⟩
  rw [List.all_eq_true] at a4 ⊢
  intro j hj
  have := a4 j hj
  simp only [Bool.or_eq_true, beq_iff_eq, Bool.and_eq_true, List.contains_iff_mem] at this ⊢
  rcases this with (h | h) | h
  · exact .inl (.inl h)
  · rcases hm j h with h | h
    · exact .inl (.inr h)
    · exact .inr h
  · exact .inr h

theorem okRow_mid {bs : List Nat} {k : CO} : ∀ {l : List CO} {mid mid' : List Nat}, okRow xs bs k mid l = true → (∀ j, j ∈ mid → j ∈ mid' ∨ (clear (xs k.i).dst (xs j).reads = true ∧ unlike (xs k.i).dst (xs j).dst = true)) → okRow xs bs k mid' l = true
  | [], _, _, _, _ => rfl
  | i :: l, mid, mid', h, hm => by
    simp only [okRow, Bool.and_eq_true, Bool.or_eq_true] at h ⊢
    refine ⟨h.1.imp id (fun h => indep_mid h hm), okRow_mid h.2 fun j hj => ?_⟩
    rcases List.mem_append.1 hj with hj | hj
    · rcases hm j hj with h | h
      · exact .inl (List.mem_append_left _ h)
      · exact .inr h
    · exact .inl (List.mem_append_right _ hj)

theorem okRow_drop {bs : List Nat} {k i : CO} {l2 : List CO} (hap : clear (xs k.i).dst (xs i.i).reads = true ∧ unlike (xs k.i).dst (xs i.i).dst = true) : ∀ {l1 : List CO} {mid : List Nat}, okRow xs bs k mid (l1 ++ i :: l2) = true → okRow xs bs k mid (l1 ++ l2) = true
  | [], mid, h => by
    simp only [List.nil_append, okRow, Bool.and_eq_true] at h ⊢
    refine okRow_mid h.2 fun j hj => ?_
    rcases List.mem_append.1 hj with hj | hj
    · exact .inl hj
    · obtain rfl : j = i.i := by simpa using hj
      exact .inr hap
  | j :: l1, mid, h => by
    simp only [List.cons_append, okRow, Bool.and_eq_true] at h ⊢
    exact ⟨h.1, okRow_drop hap h.2⟩

theorem okPairs_drop {bs : List Nat} {i : CO} {l2 : List CO} : ∀ {l1 : List CO}, okPairs xs bs (l1 ++ i :: l2) = true → Pass xs i l1 → okPairs xs bs (l1 ++ l2) = true
  | [], h, _ => by simp only [List.nil_append, okPairs, Bool.and_eq_true] at h ⊢; exact h.2
  | k :: l1, h, hp => by
    simp only [List.cons_append, okPairs, Bool.and_eq_true] at h ⊢
    have hi := hp.1
    simp only [indep, Bool.and_eq_true] at hi
    exact ⟨okRow_drop ⟨hi.1.1.1.1, hi.1.1.2⟩ h.1, okPairs_drop h.2 hp.2⟩

theorem can_any {ops : Array Oper} {K : Fr → Hp → Prop} {bs : List Nat} (hbs : Bits (predsOf ops) bs) (hlt : ∀ i j, j ∈ predsOf ops i → j < i) : ∀ (fuel : Nat) (listed : Array Bool) (l : List CO), listed.size = ops.size → l.length ≤ fuel →
    (∀ i, i ∈ l.map (·.i) ↔ (i < ops.size ∧ listed.getD i true = false)) → (l.map (·.i)).Nodup → okPairs xs bs l = true → Closed ops listed → ∀ f s, can P xs K l f s → aAny P xs ops K fuel listed f s := by
  -- something is ready while something is left
  have hready : ∀ (listed : Array Bool) (l : List CO), listed.size = ops.size → (∀ i, i ∈ l.map (·.i) ↔ (i < ops.size ∧ listed.getD i true = false)) → Region.ready .any ops listed = [] → l = [] := fun listed l hsz hl hr => by
    cases l with
    | nil => rfl
    | cons c r =>
      exfalso
      have key : ∀ m i, i ≤ m → i < ops.size → listed.getD i true = false → ∃ j, j ∈ Region.ready .any ops listed := by
        intro m
        induction m with
        | zero =>
          intro i hi h1 h2
          refine ⟨i, ready_iff.2 ⟨h2, h1, fun j hj => ?_⟩⟩
          have := hlt i j hj; omega
        | succ m ih =>
          intro i hi h1 h2
          by_cases hall : ∀ j ∈ predsOf ops i, listed.getD j false = true
          · exact ⟨i, ready_iff.2 ⟨h2, h1, hall⟩⟩
          · simp only [Classical.not_forall] at hall
            obtain ⟨j, hj, hnot⟩ := hall
            have hji := hlt i j hj
            refine ih j (by omega) (by omega) ?_
            have hjl : j < listed.size := by omega
            cases hb : listed[j] with
            | true => exact absurd (by simp [hjl, hb]) hnot
            | false => simp [hjl, hb]
      obtain ⟨h1, h2⟩ := (hl c.i).1 (by simp)
      obtain ⟨j, hj⟩ := key c.i c.i (Nat.le_refl _) h1 h2
      rw [hr] at hj; cases hj
  intro fuel
  induction fuel with
  | zero =>
    intro listed l hsz hlen hl _ _ _ f s h
    have : l = [] := List.eq_nil_of_length_eq_zero (by omega)
    subst this
    refine ⟨?_, h⟩
    cases hr : Region.ready .any ops listed with
    | nil => rfl
    | cons i r =>
      exfalso
      have hi : i ∈ Region.ready .any ops listed := by rw [hr]; simp
      obtain ⟨h1, h2, _⟩ := ready_iff.1 hi
      have := (hl i).2 ⟨h2, h1⟩
      simp at this
  | succ fuel ih =>
    intro listed l hsz hlen hl hnd hok hcl f s h
    refine ⟨fun hr => ?_, fun i hi => ?_⟩
    · have := hready listed l hsz hl hr
      subst this
      exact h
    · obtain ⟨h1, h2, h3⟩ := ready_iff.1 hi
      have hmem := (hl i).2 ⟨h2, h1⟩
      obtain ⟨c, hc, rfl⟩ := List.mem_map.1 hmem
      obtain ⟨l1, l2, rfl⟩ := List.append_of_mem hc
      have hnd' : (l1.map (·.i) ++ c.i :: l2.map (·.i)).Nodup := by simpa using hnd
      have hnd1 : (l1.map (·.i)).Nodup := (List.nodup_append.1 hnd').1
      have hind : Pass xs c l1 := okPairs_pass hok fun k hk => by
        cases hd : dep bs k.i c.i with
        | false => rfl
        | true =>
          exfalso
          have hlk := dep_listed hbs hcl hsz c.i k.i c.i (Nat.le_refl _) hd h3
          have hk' := ((hl k.i).1 (by simp; exact .inl ⟨k, hk, rfl⟩)).2
          have : k.i < listed.size := by
            rcases Nat.lt_or_ge k.i listed.size with h | h
            · exact h
            · simp [Array.getElem?_eq_none h] at hlk
          simp [this] at hlk hk'
          rw [hlk] at hk'; cases hk'
      have hb := bubble (K := K) c l2 l1 hind hnd1 f s h
      refine T_mono (fun f' s' hh => ?_) hb
      refine ih (listed.setIfInBounds c.i true) (l1 ++ l2) (by simp [hsz]) (by simp at hlen ⊢; omega) (fun j => ?_) ?_ (okPairs_drop hok hind) ?_ f' s' hh.2
      · have hnotin : c.i ∉ (l1 ++ l2).map (·.i) := by
          have := List.nodup_append.1 hnd'
          simp only [List.map_append, List.mem_append, not_or]
          refine ⟨fun hx => this.2.2 _ hx _ List.mem_cons_self rfl, (List.nodup_cons.1 this.2.1).1⟩
        by_cases hjc : c.i = j
        · subst hjc
          constructor
          · intro hx; exact absurd hx hnotin
          · rintro ⟨q1, q2⟩
            have : c.i < listed.size := by omega
            simp [this] at q2
        · rw [getD_set_ne true hjc, ← hl j]
          simp only [List.map_append, List.map_cons, List.mem_append, List.mem_cons]
          constructor
          · rintro (q | q)
            · exact .inl q
            · exact .inr (.inr q)
          · rintro (q | rfl | q)
            · exact .inl q
            · exact absurd rfl hjc
            · exact .inr q
      · have := List.nodup_append.1 hnd'
        rw [List.map_append, List.nodup_append]
        refine ⟨hnd1, (List.nodup_cons.1 this.2.1).2, fun a ha b hb => this.2.2 a ha b (List.mem_cons_of_mem _ hb)⟩
      · intro j hj hlj k hk
        by_cases hjc : c.i = j
        · subst hjc; exact getD_set_true (h3 k hk)
        · rw [getD_set_ne true hjc] at hlj
          exact getD_set_true (hcl j hj hlj k hk)

end
end Go.Av
/-
  Code over abstract values: blocks, loops, calls.
-/
namespace Go.Av
open Go

inductive Ex where
  | norm
  | exit (id : Nat)
  | ret

inductive ACode where
  | skip
  | plain (ops : List AOper)
  | draw (ops : List AOper) (order : List CO)
  | seq (a b : ACode)
  | cond (c : Operand) (a b : ACode)
  | block (id : Nat) (a : ACode)
  | loop (a : ACode)
  | exit (id : Nat)
  | ret

def nth (xs : List AOper) (i : Nat) : AOper := xs.getD i { dst := none, op := .mv (.const (.bool true)), guard := none }

def seqK (n : Fr → Hp → Prop) (K : Ex → Fr → Hp → Prop) : Ex → Fr → Hp → Prop
  | .norm => n
  | e => K e

def blockK (id : Nat) (K : Ex → Fr → Hp → Prop) : Ex → Fr → Hp → Prop
  | .exit j => if j = id then K .norm else K (.exit j)
  | e => K e

def awp (P : Program) : ACode → (Ex → Fr → Hp → Prop) → Fr → Hp → Prop
  | .skip, K => K .norm
  | .plain ops, K => runL P ops (K .norm)
  | .draw ops order, K => can P (nth ops) (K .norm) order
  | .seq a b, K => awp P a (seqK (awp P b K) K)
  | .cond c a b, K => fun f s => match ev f c with
    | .v (.bool t) => (t = true → awp P a K f s) ∧ (t = false → awp P b K f s)
    | _ => False
  | .block id a, K => awp P a (blockK id K)
  | .loop a, K => fun f s => ∃ (I : Fr → Hp → Prop) (m : Fr → Hp → Nat), I f s ∧ ∀ f s, I f s → awp P a (seqK (fun f' s' => I f' s' ∧ m f' s' < m f s) K) f s
  | .exit id, K => K (.exit id)
  | .ret, K => K .ret

/-! ### reading the model's code -/

def prepGuard (ops : Array Oper) (o : Oper) : Option (Option (Nat × Bool)) :=
  match o.guard with
  | none => some none
  | some (j, want) => match (ops[j]?).bind (·.dst) with
    | some g => some (some (g, want))
    | none => none

def dstOk (n : Nat) : Option Nat → Bool
  | some d => decide (d < n)
  | none => true

def prepOper (P : Program) (env : Env) (n : Nat) (ops : Array Oper) (o : Oper) : Option AOper :=
  match prepOp P env o, prepGuard ops o with
  | some ao, some g => if dstOk n o.dst = true then some { dst := o.dst, op := ao, guard := g } else none
  | _, _ => none

def mapAll {α β : Type} (f : α → Option β) : List α → Option (List β)
  | [] => some []
  | x :: r => match f x, mapAll f r with
    | some y, some ys => some (y :: ys)
    | _, _ => none

/-- the canonical order: what reads, as soon as may be; what adds, as late as may be -/
def pickIn (preds : Nat → List Nat) (done : List Nat) (p : Nat → Bool) (left : List Nat) : Option Nat := left.find? fun i => (preds i).all (fun j => done.contains j) && p i

def orderGo (preds : Nat → List Nat) (xs : Nat → AOper) : Nat → List Nat → List Nat → List Nat
  | 0, _, _ => []
  | fuel + 1, done, left =>
    match (pickIn preds done (fun i => isPure (xs i).op || isLoad (xs i).op) left).or ((pickIn preds done (fun i => !isAdder (xs i).op) left).or (pickIn preds done (fun _ => true) left)) with
    | some i => i :: orderGo preds xs fuel (i :: done) (left.filter (· != i))
    | none => []

def isReader (x : AOper) : Bool := isPure x.op || isLoad x.op

def marks (xs : Nat → AOper) (dp : Nat → Nat → Bool) : List Nat → List Nat → List CO
  | _, [] => []
  | ahead, i :: r =>
    let pre := if isReader (xs i) then [] else r.filter fun j => (isAdder (xs j).op || isPure (xs j).op) && !dp i j
    let chk := if isReader (xs i) || isAdder (xs i).op then [] else ahead.filter fun j => isLoad (xs j).op && !dp j i
    ⟨i, pre, chk⟩ :: marks xs dp (ahead ++ [i]) r

def canonOf (ops : Array Oper) (xs : Nat → AOper) : List CO :=
  marks xs (dep (befGo (predsOf ops) ops.size [] 0)) [] (orderGo (predsOf ops) xs ops.size [] (List.range ops.size))

def okOrder (ops : Array Oper) (xs : Nat → AOper) (l : List CO) : Bool :=
  (List.range ops.size).all (fun i => (predsOf ops i).all (fun j => decide (j < i))) && decide (l.length ≤ ops.size) && (List.range ops.size).all (fun i => (l.map (·.i)).contains i) && l.all (fun c => decide (c.i < ops.size)) &&
    decide ((l.map (·.i)).Nodup) && okPairs xs (befGo (predsOf ops) ops.size [] 0) l

def opsIn : Code → List Oper
  | .region _ ops _ => ops.toList
  | .seq a b | .cond _ a b => opsIn a ++ opsIn b
  | .block _ a | .loop a => opsIn a
  | _ => []

def isTmpIn (l : List Nat) : Operand → Bool
  | .tmp u => l.contains u
  | _ => false

/-- the slots derived from a box's address -/
def derive (l : List Nat) : List Oper → List Nat
  | [] => l
  | o :: r => match o.op, o.dst with
    | .fieldAddr _ x _, some d | .indexAddr _ x _, some d | .nilCheck x, some d => derive (if isTmpIn l x then d :: l else l) r
    | _, _ => derive l r

/-- does the operation do more with these addresses than read? -/
def harms (l : List Nat) (o : Oper) : Bool :=
  match o.op with
  | .fieldAddr _ _ _ | .indexAddr _ _ _ | .nilCheck _ | .load _ _ | .slice _ _ _ _ _ => false
  | op => op.operands.toList.any (isTmpIn l)

def slices (l : List Nat) (o : Oper) : Bool :=
  match o.op with
  | .slice _ x _ _ _ => isTmpIn l x
  | _ => false

/-- slices that are written through: one step of the closure over moves, slices, appends -/
def mutStep (l : List Nat) (o : Oper) : List Nat :=
  let add (l : List Nat) (x : Operand) : List Nat := match x with | .tmp u => if l.contains u then l else u :: l | _ => l
  let both (x : Operand) : List Nat := match o.dst with
    | some d => if l.contains d then add l x else if isTmpIn l x then (if l.contains d then l else d :: l) else l
    | none => l
  match o.op with
  | .move x | .assign x => both x
  | .slice _ x _ _ _ => both x
  | .call c => match c.callee, c.args.toList with
    | .builtin .append, [x, _] => both x
    | _, _ => l
  | _ => l
def mutGo (ops : List Oper) : Nat → List Nat → List Nat
  | 0, l => l
  | n + 1, l => let l' := ops.foldl mutStep l; if l'.length = l.length then l else mutGo ops n l'
/-- slices an element of which is stored to -/
def mutSeeds (P : Program) (ops : List Oper) : List Nat :=
  ops.filterMap fun o => match o.op, o.dst with
    | .indexAddr t (.tmp u) _, some d => if !(match P.underlying t with | some (.slice _) => true | _ => false) then none else let l := derive [d] ops; if ops.any (fun p => match p.op with | .store _ a _ => isTmpIn l a | _ => false) then some u else none
    | _, _ => none

def envOf (P : Program) (c : Code) : Env :=
  let ops := opsIn c
  let boxes := (ops.filterMap fun o => match o.op with | .box _ _ => o.dst | _ => none).filter fun t => let l := derive [t] ops; ops.any (slices l) && !ops.any (harms l)
  { roB := boxes, roD := derive boxes ops, wr := ops.filterMap fun o => match o.op with | .call c => (match c.callee, c.args.toList with | .builtin .copy, .tmp u :: _ => some u | _, _ => none) | _ => none, mu := mutGo ops 40 (mutSeeds P ops) }

def prepCode (P : Program) (env : Env) (n : Nat) : Code → Option ACode
  | .skip => some .skip
  | .region _ ops false => (mapAll (prepOper P env n ops) ops.toList).map .plain
  | .region _ ops true => match mapAll (prepOper P env n ops) ops.toList with
    | some xs => if okOrder ops (nth xs) (canonOf ops (nth xs)) = true then some (.draw xs (canonOf ops (nth xs))) else none
    | none => none
  | .seq a b => match prepCode P env n a, prepCode P env n b with
    | some x, some y => some (.seq x y)
    | _, _ => none
  | .cond c a b => match prepCode P env n a, prepCode P env n b with
    | some x, some y => if opOk c = true then some (.cond c x y) else none
    | _, _ => none
  | .block id a => (prepCode P env n a).map (.block id)
  | .loop a => (prepCode P env n a).map .loop
  | .exit id => some (.exit id)
  | .ret => some .ret
  | _ => none

/-! ### soundness -/

/-- the frame and the world at hand, of a call that began at H0, s0, w0 -/
def Sim (n : Nat) (H0 : PH) (s0 : Hp) (w0 : World) (f : Fr) (s : Hp) (a : Act) (w : World) : Prop :=
  a.tmps.size = n ∧ a.defers = [] ∧ ∃ H, FRel H a f ∧ Step H0 s0 w0 H s w

def post (n : Nat) (H0 : PH) (s0 : Hp) (w0 : World) (K : Ex → Fr → Hp → Prop) : Exit → Act → World → Prop
  | .normal, a, w => ∃ f s, Sim n H0 s0 w0 f s a w ∧ K .norm f s
  | .exit id, a, w => ∃ f s, Sim n H0 s0 w0 f s a w ∧ K (.exit id) f s
  | .ret, a, w => ∃ f s, Sim n H0 s0 w0 f s a w ∧ K .ret f s
  | _, _, _ => False

section
variable {P : Program} {env : Env} {n : Nat} {H0 : PH} {s0 : Hp} {w0 : World}

theorem size_put (a : Act) (d : Option Nat) (v : Value) : (a.put d v).tmps.size = a.tmps.size := by cases d <;> simp [Act.put]
theorem defers_put (a : Act) (d : Option Nat) (v : Value) : (a.put d v).defers = a.defers := by cases d <;> rfl

theorem mapAll_some {α β : Type} {g : α → Option β} : ∀ {l : List α} {ys : List β}, mapAll g l = some ys → l.length = ys.length ∧ ∀ (j : Nat) (x : α), l[j]? = some x → ∃ y, ys[j]? = some y ∧ g x = some y
  | [], ys, h => by simp only [mapAll, Option.some.injEq] at h; subst h; exact ⟨rfl, fun j x h => by simp at h⟩
  | x :: r, ys, h => by
    simp only [mapAll] at h
    split at h
    case h_2 => cases h
    rename_i y ys' hy hys
    obtain rfl := Option.some.inj h
    obtain ⟨h1, h2⟩ := mapAll_some hys
    refine ⟨by simp [h1], fun j x' hx => ?_⟩
    match j, hx with
    | 0, hx =>
      obtain rfl : x = x' := by simpa using hx
      exact ⟨y, rfl, hy⟩
    | j + 1, hx => exact h2 j x' (by simpa using hx)

theorem guard_wanted {ops : Array Oper} {o : Oper} {gd : Option (Nat × Bool)} (h : prepGuard ops o = some gd) {H : PH} {a : Act} {f : Fr} (hf : FRel H a f) :
    match gd with
    | none => Region.wanted o (yielded ops a.tmps) = true
    | some (g, want) => (∀ b, f g = .v (.bool b) → Region.wanted o (yielded ops a.tmps) = (b == want)) ∧ (f g = .tup [] → Region.wanted o (yielded ops a.tmps) = false) := by
  unfold prepGuard at h
  split at h
  · rename_i hg
    obtain rfl := Option.some.inj h
    simp [Region.wanted, hg]
  · rename_i j want hg
    split at h
    case h_2 => cases h
    rename_i g hd
    obtain rfl := Option.some.inj h
    have hv := hf g
    refine ⟨fun b hb => ?_, fun hb => ?_⟩
    · rw [hb] at hv
      have hval := hv.ev_v
      have hsome : a.tmps[g]? = some (.bool b) := by
        rw [Array.getD_eq_getD_getElem?] at hval
        cases hx : a.tmps[g]? with
        | none => rw [hx] at hval; cases hval
        | some x => rw [hx] at hval; simpa using hval
      have hy : yielded ops a.tmps j = some b := by simp [yielded, hd, hsome]
      simp [Region.wanted, hg, hy]
    · rw [hb] at hv
      have hnone : yielded ops a.tmps j = none := by
        unfold yielded
        rw [hd]
        simp only [Option.bind_some]
        cases hx : a.tmps[g]? with
        | none => rfl
        | some x =>
          rw [Array.getD_eq_getD_getElem?, hx] at hv
          simp only [Option.getD_some] at hv
          cases hv; rfl
      simp [Region.wanted, hg, hnone]

/-- one operation, with its guard -/
theorem oper_sound {ops : Array Oper} {o : Oper} {x : AOper} (h : prepOper P env n ops o = some x) {f : Fr} {s : Hp} {a : Act} {w : World} (hs : Sim n H0 s0 w0 f s a w) {K : Fr → Hp → Prop} (hT : T P x K f s) (Q : Exit → Act → World → Prop) :
    if Region.wanted o (yielded ops a.tmps) then o.wp P a w (fun a' w' => ∃ f' s', Sim n H0 s0 w0 f' s' a' w' ∧ K f' s') Q else ∃ f' s', Sim n H0 s0 w0 f' s' (a.put o.dst undef) w ∧ K f' s' := by
  obtain ⟨hsz, hdf, H, hf, hst⟩ := hs
  unfold prepOper at h
  split at h
  case h_2 => cases h
  rename_i ao gd hao hgd
  split at h
  case isFalse => cases h
  rename_i hlt
  obtain rfl := Option.some.inj h
  have hd : ∀ t, o.dst = some t → t < a.tmps.size := fun t ht => by rw [ht] at hlt; rw [hsz]; simpa [dstOk] using hlt
  have hw := guard_wanted hgd hf
  have run : G P ao f s (fun r s' => K (putF f o.dst r) s') → o.wp P a w (fun a' w' => ∃ f' s', Sim n H0 s0 w0 f' s' a' w' ∧ K f' s') Q := fun hG => by
    have := prepOp_sound hao hf hst.holds hG Q
    refine Oper.wp_mono (fun a' w' hh => ?_) this
    obtain ⟨v, H', s', r, rfl, hst', hv, hK⟩ := hh
    exact ⟨putF f o.dst r, s', ⟨by rw [size_put]; exact hsz, by rw [defers_put]; exact hdf, H', (hf.mono hst'.le).put o.dst hd hv, hst.trans hst'⟩, hK⟩
  have skp : K (putF f o.dst (.tup [])) s → ∃ f' s', Sim n H0 s0 w0 f' s' (a.put o.dst undef) w ∧ K f' s' := fun hK =>
    ⟨putF f o.dst (.tup []), s, ⟨by rw [size_put]; exact hsz, by rw [defers_put]; exact hdf, H, hf.put o.dst hd (RV.undef H), hst⟩, hK⟩
  unfold T E at hT
  cases gd with
  | none =>
    simp only at hT hw
    rw [if_pos hw]
    exact run hT
  | some gw =>
    obtain ⟨g, want⟩ := gw
    simp only at hT hw
    split at hT
    · rename_i b hb
      have hwb := hw.1 b hb
      split at hT
      · rename_i hbw; rw [if_pos (by rw [hwb]; simp [hbw])]; exact run hT
      · rename_i hbw; rw [if_neg (by rw [hwb]; simp [hbw])]; exact skp hT
    · rename_i hb
      rw [if_neg (by rw [hw.2 hb]; simp)]
      exact skp hT
    · exact hT.elim

theorem runL_sound {ops : Array Oper} {Q : Exit → Act → World → Prop} {K : Fr → Hp → Prop} (hQ : ∀ f s a w, Sim n H0 s0 w0 f s a w → K f s → Q .normal a w) : ∀ (l : List Oper) (ys : List AOper), mapAll (prepOper P env n ops) l = some ys →
    ∀ (f : Fr) (s : Hp) (a : Act) (w : World), Sim n H0 s0 w0 f s a w → runL P ys K f s → wpList P ops Q l a w
  | [], ys, h, f, s, a, w, hs, hr => by
    simp only [mapAll, Option.some.injEq] at h; subst h
    exact hQ f s a w hs hr
  | o :: l, ys, h, f, s, a, w, hs, hr => by
    simp only [mapAll] at h
    split at h
    case h_2 => cases h
    rename_i y ys' hy hys
    obtain rfl := Option.some.inj h
    have ih := runL_sound hQ l ys' hys
    have := oper_sound hy hs hr Q
    simp only [wpList]
    split
    · rename_i hw
      rw [if_pos hw] at this
      exact .inl (Oper.wp_mono (fun a' w' ⟨f', s', hs', hr'⟩ => ih f' s' a' w' hs' hr') this)
    · rename_i hw
      rw [if_neg hw] at this
      obtain ⟨f', s', hs', hr'⟩ := this
      exact ih f' s' _ w hs' hr'

theorem aAny_sound {ops : Array Oper} {Q : Exit → Act → World → Prop} {K : Fr → Hp → Prop} (hQ : ∀ f s a w, Sim n H0 s0 w0 f s a w → K f s → Q .normal a w) {ys : List AOper} (h : mapAll (prepOper P env n ops) ops.toList = some ys) :
    ∀ (fuel : Nat) (listed : Array Bool) (f : Fr) (s : Hp) (a : Act) (w : World), Sim n H0 s0 w0 f s a w → aAny P (nth ys) ops K fuel listed f s → wpAny P .any ops Q fuel listed a w
  | 0, listed, f, s, a, w, hs, hr => ⟨hr.1, hQ f s a w hs hr.2⟩
  | fuel + 1, listed, f, s, a, w, hs, hr => by
    refine ⟨fun h0 => hQ f s a w hs (hr.1 h0), fun i hi => ?_⟩
    have hT := hr.2 i hi
    obtain ⟨_, o, ho, _⟩ := mem_ready.1 hi
    obtain ⟨y, hy1, hy2⟩ := (mapAll_some h).2 i o (by simpa using ho)
    have hy : nth ys i = y := by simp [nth, List.getD, hy1]
    rw [hy] at hT
    have := oper_sound hy2 hs hT Q
    unfold wpOp
    simp only [ho]
    split
    · rename_i hw
      rw [if_pos hw] at this
      exact .inl (Oper.wp_mono (fun a' w' ⟨f', s', hs', hr'⟩ => aAny_sound hQ h fuel _ f' s' a' w' hs' hr') this)
    · rename_i hw
      rw [if_neg hw] at this
      obtain ⟨f', s', hs', hr'⟩ := this
      exact aAny_sound hQ h fuel _ f' s' _ w hs' hr'

theorem okOrder_any {ops : Array Oper} {xs : Nat → AOper} {l : List CO} (h : okOrder ops xs l = true) {K : Fr → Hp → Prop} {f : Fr} {s : Hp} (hc : can P xs K l f s) : aAny P xs ops K ops.size (Array.replicate ops.size false) f s := by
  simp only [okOrder, Bool.and_eq_true, List.all_eq_true, decide_eq_true_eq, List.mem_range] at h
  obtain ⟨⟨⟨⟨⟨h1, h2⟩, h2'⟩, h3⟩, h4⟩, h5⟩ := h
  have hlt : ∀ i j, j ∈ predsOf ops i → j < i := fun i j hj => by
    have hi : i < ops.size := by
      obtain ⟨o, ho, _⟩ := mem_preds.1 hj
      exact (Array.getElem?_eq_some_iff.1 ho).1
    exact h1 i hi j hj
  refine can_any (befGo_bits hlt ops.size [] 0 rfl (fun i c h => by simp [dep] at h)) hlt ops.size _ l (by simp) (by omega) (fun i => ?_) h4 h5 (fun i hi hl => ?_) f s hc
  · constructor
    · intro hi
      obtain ⟨c, hc, rfl⟩ := List.mem_map.1 hi
      have := h3 c hc
      exact ⟨this, by simp [this]⟩
    · rintro ⟨hi, _⟩
      simpa using h2' i hi
  · simp [hi] at hl

theorem exit_then {X : Act → World → Prop} {Y : Exit → Act → World → Prop} : Exit.then X Y .normal = X := rfl

/-- WHAT 'awp' SAYS OF THE CODE HOLDS OF IT. -/
theorem awp_sound (hm : P.follows .mixedOrders = true) : ∀ (c : Code) (x : ACode), prepCode P env n c = some x → ∀ (K : Ex → Fr → Hp → Prop) (f : Fr) (s : Hp) (a : Act) (w : World), Sim n H0 s0 w0 f s a w → awp P x K f s → c.wp P (post n H0 s0 w0 K) a w
  | .skip, x, h, K, f, s, a, w, hs, ha => by
    simp only [prepCode, Option.some.injEq] at h; subst h
    exact wp_skip ⟨f, s, hs, ha⟩
  | .region id ops d, x, h, K, f, s, a, w, hs, ha => by
    cases d with
    | false =>
      simp only [prepCode] at h
      obtain ⟨ys, hys, rfl⟩ := Option.map_eq_some_iff.1 h
      refine wp_region_list ?_
      exact runL_sound (K := K .norm) (fun f s a w hs hK => ⟨f, s, hs, hK⟩) ops.toList ys hys f s a w hs ha
    | true =>
      simp only [prepCode] at h
      split at h
      case h_2 => cases h
      rename_i ys hys
      split at h
      case isFalse => cases h
      rename_i hok
      obtain rfl := Option.some.inj h
      refine wp_region_any hm ?_
      obtain ⟨hsz, hdf, H, hf, hst⟩ := hs
      exact aAny_sound (K := K .norm) (fun f s a w hs hK => ⟨f, s, hs, hK⟩) hys ops.size _ f s a _ ⟨hsz, hdf, H, hf, hst.trans (Step.drew hst.holds)⟩ (okOrder_any hok ha)
  | .seq c1 c2, x, h, K, f, s, a, w, hs, ha => by
    simp only [prepCode] at h
    split at h
    case h_2 => cases h
    rename_i x1 x2 h1 h2
    obtain rfl := Option.some.inj h
    refine wp_seq (wp_mono (awp_sound hm c1 x1 h1 _ f s a w hs ha) fun e a' w' hq => ?_)
    cases e with
    | normal => obtain ⟨f', s', hs', hK⟩ := hq; exact awp_sound hm c2 x2 h2 K f' s' a' w' hs' hK
    | exit id => exact hq
    | ret => exact hq
    | goto l => exact hq
    | panic ch => exact hq
    | outgrown => exact hq
  | .cond c c1 c2, x, h, K, f, s, a, w, hs, ha => by
    simp only [prepCode] at h
    split at h
    case h_2 => cases h
    rename_i x1 x2 h1 h2
    split at h
    case isFalse => cases h
    rename_i hc
    obtain rfl := Option.some.inj h
    simp only [awp] at ha
    split at ha
    case h_2 => exact ha.elim
    rename_i t he
    have hv := (hs.2.2.choose_spec.1).ev c hc
    rw [he] at hv
    refine wp_cond_split hv.ev_v (fun ht => ?_) (fun ht => ?_)
    · exact awp_sound hm c1 x1 h1 K f s a w hs (ha.1 ht)
    · exact awp_sound hm c2 x2 h2 K f s a w hs (ha.2 ht)
  | .block id c, x, h, K, f, s, a, w, hs, ha => by
    simp only [prepCode] at h
    obtain ⟨y, hy, rfl⟩ := Option.map_eq_some_iff.1 h
    refine wp_block (wp_mono (awp_sound hm c y hy _ f s a w hs ha) fun e a' w' hq => ?_)
    cases e with
    | normal => exact hq
    | exit id' =>
      obtain ⟨f', s', hs', hK⟩ := hq
      simp only [Exit.inBlock]
      simp only [blockK] at hK
      split
      · rename_i hid; rw [if_pos hid] at hK; exact ⟨f', s', hs', hK⟩
      · rename_i hid; rw [if_neg hid] at hK; exact ⟨f', s', hs', hK⟩
    | ret => exact hq
    | goto l => exact hq
    | panic ch => exact hq
    | outgrown => exact hq
  | .loop c, x, h, K, f, s, a, w, hs, ha => by
    simp only [prepCode] at h
    obtain ⟨y, hy, rfl⟩ := Option.map_eq_some_iff.1 h
    obtain ⟨I, m, hI, hround⟩ := ha
    -- the loop, by the measure
    intro b k cs
    have key : ∀ N f s a w, m f s = N → I f s → Sim n H0 s0 w0 f s a w →
        ∃ e a' w', post n H0 s0 w0 K e a' w' ∧ Arrives P (lone (b.at a (.code c :: .inLoop c :: k)) cs w) b k cs e a' w' := by
      intro N
      induction N using Nat.strongRecOn with
      | _ N ih =>
        intro f s a w hN hI hs
        obtain ⟨e, a1, w1, hq, harr⟩ := awp_sound hm c y hy _ f s a w hs (hround f s hI) b (.inLoop c :: k) cs
        cases e with
        | normal =>
          obtain ⟨f', s', hs', hI', hlt⟩ := hq
          obtain ⟨e2, a2, w2, hq2, harr2⟩ := ih (m f' s') (hN ▸ hlt) f' s' a1 w1 rfl hI' hs'
          exact ⟨e2, a2, w2, hq2, .of_steps (Steps.trans harr (.one step_inLoop)) harr2⟩
        | exit id => exact ⟨.exit id, a1, w1, hq, .pass (x := .inLoop c) rfl (fun _ _ => .inl (by simp)) harr⟩
        | goto l => exact hq.elim
        | ret => exact ⟨.ret, a1, w1, hq, .pass (x := .inLoop c) rfl (fun _ _ => .inl (by simp)) harr⟩
        | panic ch => exact hq.elim
        | outgrown => exact hq.elim
    obtain ⟨e, a', w', hq, harr⟩ := key _ f s a w rfl hI hs
    exact ⟨e, a', w', hq, .of_steps (.one step_loop) harr⟩
  | .exit id, x, h, K, f, s, a, w, hs, ha => by
    simp only [prepCode, Option.some.injEq] at h; subst h
    exact wp_exit ⟨f, s, hs, ha⟩
  | .ret, x, h, K, f, s, a, w, hs, ha => by
    simp only [prepCode, Option.some.injEq] at h; subst h
    exact wp_ret ⟨f, s, hs, ha⟩

/-! ### functions -/

structure AFunc where
  ntmps : Nat
  nparams : Nat
  code : ACode
  results : List (Nat × Option (Bool × Nat))

def prepRes (P : Program) : ResultVar → Option (Nat × Option (Bool × Nat))
  | .tmp t => some (t, none)
  | .cell a t => match P.underlying t, szOf P t with
    | some d, some n => if d.isRow = true ∨ n = 1 then some (a, some (d.isRow, n)) else none
    | _, _ => none

/-- all slices that are made here may be written -/
def Env.all (env : Env) (m : Bool) (n : Nat) : Env := if m = true then { env with mu := List.range n } else env

/-- a function's code over abstract values; m: all slices that are made in it may be written -/
def prepFunc (P : Program) (m : Bool) (f : FuncId) : Option AFunc :=
  match P.funcs[f]? with
  | some fn => match fn.body with
    | some c => match prepCode P ((envOf P c).all m fn.ntmps) fn.ntmps c, mapAll (prepRes P) fn.results.toList with
      | some x, some rs => if fn.params.size ≤ fn.ntmps then some ⟨fn.ntmps, fn.params.size, x, rs⟩ else none
      | _, _ => none
    | none => none
  | none => none

/-- what a result variable holds -/
def resG (f : Fr) (s : Hp) : Nat × Option (Bool × Nat) → Option AV
  | (t, none) => some (f t)
  | (t, some (agg, n)) => match f t with
    | .ptr l off => match s.read l with
      | some cs => if off + n ≤ cs.length then some (mkv agg n (cs.drop off)) else none
      | none => none
    | _ => none

def resAll (f : Fr) (s : Hp) (rs : List (Nat × Option (Bool × Nat))) : Option AV :=
  match mapAll (resG f s) rs with
  | some [r] => some r
  | some vs => some (.tup vs)
  | none => none

def postF (F : AFunc) (R : AV → Hp → Prop) : Ex → Fr → Hp → Prop
  | .exit _, _, _ => False
  | _, f, s => ∃ r s', resAll f s F.results = some r ∧ s'.sub s ∧ R r s'

def initF (args : List AV) : Fr := fun t => args.getD t (.tup [])

def resOf (tmps : Array Value) : ResultVar → Sem Value
  | .tmp t => pure (tmps.getD t undef)
  | .cell a t => do loadVar t (← asAddr (tmps.getD a undef))

theorem run_res {H : PH} {f : Fr} {s : Hp} {a : Act} {w : World} (hf : FRel H a f) (hh : Holds H s w) {rv : ResultVar} {p : Nat × Option (Bool × Nat)} (hp : prepRes P rv = some p) {r : AV} (hr : resG f s p = some r) :
    ∃ v, (resOf a.tmps rv).run P w = .ok v w ∧ RV H v r := by
  cases rv with
  | tmp t =>
    simp only [prepRes, Option.some.injEq] at hp; subst hp
    simp only [resG, Option.some.injEq] at hr; subst hr
    exact ⟨_, rfl, hf t⟩
  | cell b t =>
    simp only [prepRes] at hp
    split at hp
    case h_2 => cases hp
    rename_i d n hu hn
    split at hp
    case isFalse => cases hp
    rename_i hrow
    obtain rfl := Option.some.inj hp
    simp only [resG] at hr
    split at hr
    case h_2 => cases hr
    rename_i l off he
    split at hr
    case h_2 => cases hr
    rename_i cs hcs
    split at hr
    case isFalse => cases hr
    rename_i hle
    obtain rfl := Option.some.inj hr
    have hv := hf b
    rw [he] at hv
    have hval := hv.lt_of_ptr
    obtain ⟨hone, vs, T, hb, hra⟩ := hh.read hcs
    have hlen := hra.1
    cases hd : d.isRow with
    | true =>
      have hrange : w.rangeAt l off ((vs.toList.drop off).take n) := by
        intro j v hj
        rw [cell_of_row w l (off + j) vs T _ hb]
        rw [List.getElem?_take] at hj
        split at hj
        · simpa using hj
        · cases hj
      have hl : ((vs.toList.drop off).take n).length = n := by simp; omega
      have hrun := run_loadVar_mid (P := P) w l off t ((vs.toList.drop off).take n) d hrange hu hd (by rw [hl]; exact hn)
      refine ⟨.agg ((vs.toList.drop off).take n).toArray, by simp only [resOf, Sem.run_bind, hval, asAddr, Sem.run_pure, Result.andThen_ok, hrun], ?_⟩
      rw [show ((vs.toList.drop off).take n).toArray = vs.extract off (off + n) by rw [← extract_drop_take]]
      exact RV.mkv hra hone off n hle
    | false =>
      obtain rfl := row_or_one hrow hd
      have hlt : off < vs.size := by omega
      have hc : w.cell? ⟨l, off, none⟩ = some (vs.getD off undef) := by
        rw [cell_of_row w l off vs T _ hb]; simp [hlt]
      have hrun := run_loadVar_one (P := P) w t d ⟨l, off, none⟩ _ hu hd hc
      exact ⟨vs.getD off undef, by simp only [resOf, Sem.run_bind, hval, asAddr, Sem.run_pure, Result.andThen_ok, hrun], RV.mkv1 hra off hle⟩

theorem run_resList {H : PH} {f : Fr} {s : Hp} {a : Act} {w : World} (hf : FRel H a f) (hh : Holds H s w) : ∀ (rvs : List ResultVar) (ps : List (Nat × Option (Bool × Nat))) (rs : List AV), mapAll (prepRes P) rvs = some ps → mapAll (resG f s) ps = some rs →
    ∃ vs : List Value, (rvs.mapM (resOf a.tmps)).run P w = .ok vs w ∧ vs.length = rs.length ∧ ∀ (j : Nat) (x : Value) (u : AV), vs[j]? = some x → rs[j]? = some u → RV H x u
  | [], ps, rs, hp, hr => by
    simp only [mapAll, Option.some.injEq] at hp; subst hp
    simp only [mapAll, Option.some.injEq] at hr; subst hr
    exact ⟨[], rfl, rfl, fun j x u h => by simp at h⟩
  | rv :: rvs, ps, rs, hp, hr => by
    simp only [mapAll] at hp
    split at hp
    case h_2 => cases hp
    rename_i p ps' hp1 hp2
    obtain rfl := Option.some.inj hp
    simp only [mapAll] at hr
    split at hr
    case h_2 => cases hr
    rename_i r rs' hr1 hr2
    obtain rfl := Option.some.inj hr
    obtain ⟨v, h1, h2⟩ := run_res hf hh hp1 hr1
    obtain ⟨vs, h3, h4, h5⟩ := run_resList hf hh rvs ps' rs' hp2 hr2
    refine ⟨v :: vs, ?_, by simp [h4], fun j x u hx hu => ?_⟩
    · rw [List.mapM_cons, Sem.run_bind, h1, Result.andThen_ok, Sem.run_bind, h3]; rfl
    · match j, hx, hu with
      | 0, hx, hu =>
        obtain rfl : v = x := by simpa using hx
        obtain rfl : r = u := by simpa using hu
        exact h2
      | j + 1, hx, hu => exact h5 j x u (by simpa using hx) (by simpa using hu)

theorem run_results {H : PH} {f : Fr} {s : Hp} {a : Act} {w : World} (hf : FRel H a f) (hh : Holds H s w) {fn : Func} {ps : List (Nat × Option (Bool × Nat))} (hp : mapAll (prepRes P) fn.results.toList = some ps) {r : AV} (hr : resAll f s ps = some r) :
    ∃ v, (results fn a.tmps).run P w = .ok v w ∧ RV H v r := by
  unfold resAll at hr
  have fin : ∀ rs, mapAll (resG f s) ps = some rs → ∃ vs : Array Value, (results fn a.tmps).run P w = .ok (if h : vs.size = 1 then vs[0] else .tuple vs) w ∧ vs.toList.length = rs.length ∧ ∀ (j : Nat) (x : Value) (u : AV), vs.toList[j]? = some x → rs[j]? = some u → RV H x u := fun rs hrs => by
    obtain ⟨vs, h1, h2, h3⟩ := run_resList hf hh fn.results.toList ps rs hp hrs
    refine ⟨vs.toArray, ?_, by simpa using h2, fun j x u hx hu => h3 j x u (by simpa using hx) hu⟩
    have e : results fn a.tmps = (do let vs ← fn.results.mapM (resOf a.tmps); pure (if h : vs.size = 1 then vs[0] else .tuple vs)) := rfl
    rw [e, Sem.run_bind, Array.mapM_eq_mapM_toList, Sem.run_map]
    rw [h1]
    rfl
  split at hr
  · rename_i r' hrs
    obtain rfl := Option.some.inj hr
    obtain ⟨vs, h1, h2, h3⟩ := fin _ hrs
    have hsz : vs.size = 1 := by simpa using h2
    rw [dif_pos hsz] at h1
    refine ⟨_, h1, h3 0 _ _ ?_ rfl⟩
    simp [hsz]
  · rename_i rs hne hrs
    obtain rfl := Option.some.inj hr
    obtain ⟨vs, h1, h2, h3⟩ := fin _ hrs
    have hsz : vs.size ≠ 1 := by
      intro he
      have hl : rs.length = 1 := by rw [← h2]; simpa using he
      obtain ⟨x, hx⟩ := List.length_eq_one_iff.1 hl
      exact hne x hx
    rw [dif_neg hsz] at h1
    exact ⟨_, h1, .tup _ _ (RVA.iff_list.2 ⟨h2, h3⟩).1 (RVA.iff_list.2 ⟨h2, h3⟩).2⟩
  · cases hr

/-- A FUNCTION'S CONTRACT, FROM ITS CODE. -/
theorem AC_of (hm : P.follows .mixedOrders = true) {m : Bool} {g : FuncId} {F : AFunc} (hF : prepFunc P m g = some F) {args : List AV} {s : Hp} {R : AV → Hp → Prop} (hlen : args.length ≤ F.ntmps) (h : awp P F.code (postF F R) (initF args) s) : AC P g args s R := by
  intro vs w H ha hh
  unfold prepFunc at hF
  split at hF
  case h_2 => cases hF
  rename_i fn hfn
  split at hF
  case h_2 => cases hF
  rename_i c hc
  split at hF
  case h_2 => cases hF
  rename_i x rs hx hrs
  split at hF
  case isFalse => cases hF
  rename_i hps
  obtain rfl := Option.some.inj hF
  simp only at hlen h
  refine calls_of_wp hfn hc ?_
  have hvs : vs.size = args.length := ha.1
  have hs0 : Sim fn.ntmps H s w (initF args) s { tmps := vs ++ Array.replicate (fn.ntmps - vs.size) undef, defers := [] } w := by
    refine ⟨by simp; omega, rfl, H, fun t => ?_, .refl hh⟩
    by_cases ht : t < args.length
    · have e1 : initF args t = args[t] := by simp [initF, List.getD, ht]
      rw [e1]
      have := ha.2 t args[t] (List.getElem?_eq_getElem ht)
      have e2 : (vs ++ Array.replicate (fn.ntmps - vs.size) undef).getD t undef = vs.getD t undef := by
        simp [Array.getElem?_append, hvs, ht]
      rw [e2]; exact this
    · have e1 : initF args t = .tup [] := by simp [initF, List.getD, ht]
      rw [e1]
      have e2 : (vs ++ Array.replicate (fn.ntmps - vs.size) undef).getD t undef = undef := by
        simp only [Array.getD_eq_getD_getElem?, Array.getElem?_append, hvs]
        rw [if_neg ht]
        simp only [Array.getElem?_replicate]
        split <;> rfl
      rw [e2]; exact RV.undef H
  refine wp_mono (awp_sound hm c x hx _ _ _ _ _ hs0 h) fun e a' w' hq => ?_
  have fin : (∃ f s1, Sim fn.ntmps H s w f s1 a' w' ∧ ∃ r s2, resAll f s1 rs = some r ∧ s2.sub s1 ∧ R r s2) →
      a'.defers = [] ∧ ∃ v, (results fn a'.tmps).run P w' = .ok v w' ∧ ∃ v' r H' s', Ending.returned v = .returned v' ∧ Step H s w H' s' w' ∧ RV H' v' r ∧ R r s' := by
    rintro ⟨f, s1, ⟨_, hdf, H', hf, hst⟩, r, s2, hr, hsub, hR⟩
    obtain ⟨v, hrun, hv⟩ := run_results hf hst.holds hrs hr
    exact ⟨hdf, v, hrun, v, r, H', s2, rfl, hst.drop hsub, hv, hR⟩
  cases e with
  | normal => exact fin hq
  | ret => exact fin hq
  | exit id => obtain ⟨f, s1, _, hK⟩ := hq; exact hK.elim
  | goto l => exact hq.elim
  | panic ch => exact hq.elim
  | outgrown => exact hq.elim

end
end Go.Av
set_option maxRecDepth 100000
namespace Go.Proofs.Ytapjikladjoicaa
open Go Go.Av

theorem hm : Try.prog.follows .mixedOrders = true := by kernel_rfl

-- indenture/indenturelaw34.LightKeeps
def F3 : AFunc where
  ntmps := 137
  nparams := 7
  results := [(14, none)]
  code :=
(.seq
(.plain (
⟨(some 9), .box 26 (.tmp 2), none⟩ ::
⟨(some 12), .box 24 (.tmp 5), none⟩ ::
⟨(some 14), .mv (.const (.bool false)), none⟩ ::
[]))
(.seq
(.seq
(.plain (
⟨(some 23), .callF 6 [], none⟩ ::
⟨(some 24), .un .not (.tmp 23), none⟩ ::
[]))
(.cond (.tmp 24)
(.seq
(.plain (
⟨(some 14), .mv (.const (.bool false)), none⟩ ::
[]))
.ret)
.skip))
(.seq
(.seq
(.plain (
⟨(some 25), .mv (.tmp 0), none⟩ ::
⟨(some 26), .len (.tmp 25), none⟩ ::
⟨(some 27), .bin .gtr (.tmp 26) (.const (.int .i64 30)), none⟩ ::
⟨(some 28), .mv (.tmp 27), none⟩ ::
⟨(some 29), .mv (.tmp 3), (some (28, false))⟩ ::
⟨(some 30), .len (.tmp 29), (some (28, false))⟩ ::
⟨(some 31), .bin .gtr (.tmp 30) (.const (.int .i64 100)), (some (28, false))⟩ ::
⟨(some 32), .pick (.tmp 28) (.const (.bool true)) (.tmp 31), none⟩ ::
⟨(some 33), .mv (.tmp 32), none⟩ ::
⟨(some 34), .mv (.tmp 6), (some (33, false))⟩ ::
⟨(some 35), .len (.tmp 34), (some (33, false))⟩ ::
⟨(some 36), .bin .gtr (.tmp 35) (.const (.int .i64 100)), (some (33, false))⟩ ::
⟨(some 37), .pick (.tmp 33) (.const (.bool true)) (.tmp 36), none⟩ ::
⟨(some 38), .mv (.tmp 37), none⟩ ::
⟨(some 39), .mv (.tmp 0), (some (38, false))⟩ ::
⟨(some 40), .len (.tmp 39), (some (38, false))⟩ ::
⟨(some 41), .bin .eql (.tmp 40) (.const (.int .i64 0)), (some (38, false))⟩ ::
⟨(some 42), .pick (.tmp 38) (.const (.bool true)) (.tmp 41), none⟩ ::
[]))
(.cond (.tmp 42)
(.seq
(.plain (
⟨(some 14), .mv (.const (.bool true)), none⟩ ::
[]))
.ret)
.skip))
(.seq
(.plain (
⟨(some 43), .mv (.tmp 1), none⟩ ::
⟨(some 44), .cvt .i64 (.tmp 43), none⟩ ::
⟨(some 45), .mv (.tmp 0), none⟩ ::
⟨(some 46), .len (.tmp 45), none⟩ ::
⟨(some 47), .bin .rem (.tmp 44) (.tmp 46), none⟩ ::
⟨(some 48), .bin .add (.const (.int .i64 1)) (.tmp 47), none⟩ ::
⟨(some 15), .mv (.tmp 48), none⟩ ::
[]))
(.seq
(.plain (
⟨(some 49), .mv (.tmp 0), none⟩ ::
⟨(some 50), .mv (.tmp 15), none⟩ ::
⟨(some 51), .callF 7 [(.tmp 49), (.tmp 50)], none⟩ ::
⟨(some 16), .alloc 26 ([(.v (.int .i64 0))] ++ List.replicate 64 (.v (.int .u8 0))), none⟩ ::
⟨none, .store 65 (.tmp 16) (.tmp 51), none⟩ ::
[]))
(.seq
(.draw (
⟨(some 53), .load true 65 (.tmp 16), none⟩ ::
⟨(some 54), .callF 9 [(.tmp 53)], none⟩ ::
⟨(some 55), .load true 65 (.tmp 16), none⟩ ::
⟨(some 56), .callF 8 [(.tmp 54), (.tmp 55)], none⟩ ::
⟨(some 52), .mv (.tmp 56), none⟩ ::
⟨(some 57), .ext (.tmp 52) 0, none⟩ ::
⟨(some 58), .ext (.tmp 52) 1, none⟩ ::
⟨(some 17), .mv (.tmp 57), none⟩ ::
⟨(some 18), .mv (.tmp 58), none⟩ ::
[])
(⟨0, [], []⟩ :: ⟨2, [], []⟩ :: ⟨1, [], [2]⟩ :: ⟨3, [], []⟩ :: ⟨4, [], []⟩ :: ⟨5, [], []⟩ :: ⟨6, [], []⟩ :: ⟨7, [], []⟩ :: ⟨8, [], []⟩ :: []))
(.seq
(.seq
(.plain (
⟨(some 59), .mv (.tmp 18), none⟩ ::
⟨(some 60), .bin .neq (.tmp 59) (.const (.int .i64 0)), none⟩ ::
⟨(some 61), .mv (.tmp 60), none⟩ ::
⟨(some 62), .mv (.tmp 17), (some (61, false))⟩ ::
⟨(some 63), .eqp false (.tmp 62) (.const (.pointer none)), (some (61, false))⟩ ::
⟨(some 64), .pick (.tmp 61) (.const (.bool true)) (.tmp 63), none⟩ ::
[]))
(.cond (.tmp 64)
(.seq
(.plain (
⟨(some 14), .mv (.const (.bool false)), none⟩ ::
[]))
.ret)
.skip))
(.seq
(.seq
(.draw (
⟨(some 65), .mv (.tmp 17), none⟩ ::
⟨(some 66), .load true 65 (.tmp 9), none⟩ ::
⟨(some 67), .callF 9 [(.tmp 66)], none⟩ ::
⟨(some 68), .load true 65 (.tmp 9), none⟩ ::
⟨(some 69), .mv (.tmp 3), none⟩ ::
⟨(some 70), .callF 10 [(.tmp 65), (.tmp 67), (.tmp 68), (.tmp 69)], none⟩ ::
⟨(some 71), .bin .neq (.tmp 70) (.const (.int .i64 0)), none⟩ ::
⟨(some 72), .mv (.tmp 71), none⟩ ::
⟨(some 73), .mv (.tmp 17), (some (72, false))⟩ ::
⟨(some 74), .callF 11 [(.tmp 73)], (some (72, false))⟩ ::
⟨(some 75), .load true 65 (.tmp 9), (some (72, false))⟩ ::
⟨(some 76), .eqv true [(1, .int .i64), (64, .int .u8)] (.tmp 74) (.tmp 75), (some (72, false))⟩ ::
⟨(some 77), .pick (.tmp 72) (.const (.bool true)) (.tmp 76), none⟩ ::
[])
(⟨0, [], []⟩ :: ⟨1, [], []⟩ :: ⟨3, [], []⟩ :: ⟨4, [], []⟩ :: ⟨2, [], [3]⟩ :: ⟨5, [], []⟩ :: ⟨6, [], []⟩ :: ⟨7, [], []⟩ :: ⟨8, [], []⟩ :: ⟨10, [], []⟩ :: ⟨9, [], [10]⟩ :: ⟨11, [], []⟩ :: ⟨12, [], []⟩ :: []))
(.cond (.tmp 77)
(.seq
(.plain (
⟨(some 14), .mv (.const (.bool true)), none⟩ ::
[]))
.ret)
.skip))
(.seq
(.plain (
⟨(some 78), .mv (.tmp 4), none⟩ ::
⟨(some 79), .cvt .i64 (.tmp 78), none⟩ ::
⟨(some 80), .mv (.tmp 15), none⟩ ::
⟨(some 81), .bin .rem (.tmp 79) (.tmp 80), none⟩ ::
⟨(some 19), .mv (.tmp 81), none⟩ ::
[]))
(.seq
(.seq
(.draw (
⟨(some 82), .fa 1 (.tmp 9), none⟩ ::
⟨(some 83), .load true 32 (.tmp 82), none⟩ ::
⟨(some 84), .fa 0 (.tmp 9), none⟩ ::
⟨(some 85), .load false 1 (.tmp 84), none⟩ ::
⟨(some 86), .mv (.tmp 19), none⟩ ::
⟨(some 87), .load true 32 (.tmp 12), none⟩ ::
⟨(some 88), .mv (.tmp 6), none⟩ ::
⟨(some 89), .callF 12 [(.tmp 83), (.tmp 85), (.tmp 86), (.tmp 87), (.tmp 88)], none⟩ ::
⟨(some 90), .un .not (.tmp 89), none⟩ ::
⟨(some 91), .mv (.tmp 90), none⟩ ::
⟨(some 92), .load true 32 (.tmp 12), (some (91, false))⟩ ::
⟨(some 93), .mv (.tmp 0), (some (91, false))⟩ ::
⟨(some 94), .mv (.tmp 19), (some (91, false))⟩ ::
⟨(some 95), .iaS 32 (.tmp 93) (.tmp 94), (some (91, false))⟩ ::
⟨(some 96), .load true 32 (.tmp 95), (some (91, false))⟩ ::
⟨(some 97), .eqv false [(32, .int .u8)] (.tmp 92) (.tmp 96), (some (91, false))⟩ ::
⟨(some 98), .pick (.tmp 91) (.const (.bool true)) (.tmp 97), none⟩ ::
⟨(some 99), .mv (.tmp 98), none⟩ ::
⟨(some 100), .mv (.tmp 17), (some (99, false))⟩ ::
⟨(some 101), .callF 13 [(.tmp 100)], (some (99, false))⟩ ::
⟨(some 102), .bin .eql (.tmp 101) (.const (.int .i64 0)), (some (99, false))⟩ ::
⟨(some 103), .pick (.tmp 99) (.const (.bool true)) (.tmp 102), none⟩ ::
[])
(⟨0, [], []⟩ :: ⟨1, [], []⟩ :: ⟨2, [], []⟩ :: ⟨3, [], []⟩ :: ⟨4, [], []⟩ :: ⟨5, [], []⟩ :: ⟨6, [], []⟩ :: ⟨7, [], []⟩ :: ⟨8, [], []⟩ :: ⟨9, [], []⟩ :: ⟨10, [], []⟩ :: ⟨11, [], []⟩ :: ⟨12, [], []⟩ :: ⟨13, [], []⟩ :: ⟨14, [], []⟩ :: ⟨15, [], []⟩ :: ⟨16, [], []⟩ :: ⟨17, [], []⟩ :: ⟨18, [], []⟩ :: ⟨19, [], []⟩ :: ⟨20, [], []⟩ :: ⟨21, [], []⟩ :: []))
(.cond (.tmp 103)
(.seq
(.plain (
⟨(some 14), .mv (.const (.bool true)), none⟩ ::
[]))
.ret)
.skip))
(.seq
(.plain (
⟨(some 105), .mv (.tmp 0), none⟩ ::
⟨(some 106), .mv (.tmp 15), none⟩ ::
⟨(some 107), .slc 32 (.tmp 105) none (some (.tmp 106)), none⟩ ::
⟨(some 108), .mv (.tmp 19), none⟩ ::
⟨(some 109), .callF 14 [(.tmp 107), (.tmp 108)], none⟩ ::
⟨(some 104), .mv (.tmp 109), none⟩ ::
⟨(some 110), .ext (.tmp 104) 0, none⟩ ::
⟨(some 111), .ext (.tmp 104) 1, none⟩ ::
⟨(some 20), .mv (.tmp 110), none⟩ ::
⟨(some 21), .mv (.tmp 111), none⟩ ::
[]))
(.seq
(.draw (
⟨(some 112), .mv (.tmp 15), none⟩ ::
⟨(some 113), .mv (.tmp 19), none⟩ ::
⟨(some 114), .mv (.tmp 0), none⟩ ::
⟨(some 115), .mv (.tmp 19), none⟩ ::
⟨(some 116), .iaS 32 (.tmp 114) (.tmp 115), none⟩ ::
⟨(some 117), .load true 32 (.tmp 116), none⟩ ::
⟨(some 118), .mv (.tmp 20), none⟩ ::
⟨(some 119), .callF 15 [(.tmp 112), (.tmp 113), (.tmp 117), (.tmp 118)], none⟩ ::
⟨(some 120), .fa 0 (.tmp 9), none⟩ ::
⟨(some 121), .load false 1 (.tmp 120), none⟩ ::
⟨(some 122), .mv (.tmp 19), none⟩ ::
⟨(some 123), .load true 32 (.tmp 12), none⟩ ::
⟨(some 124), .mv (.tmp 6), none⟩ ::
⟨(some 125), .callF 15 [(.tmp 121), (.tmp 122), (.tmp 123), (.tmp 124)], none⟩ ::
⟨(some 126), .app 1 24 (.tmp 119) (.tmp 125), none⟩ ::
⟨(some 22), .mv (.tmp 126), none⟩ ::
[])
(⟨0, [], []⟩ :: ⟨1, [], []⟩ :: ⟨2, [], []⟩ :: ⟨3, [], []⟩ :: ⟨4, [], []⟩ :: ⟨5, [], []⟩ :: ⟨6, [], []⟩ :: ⟨8, [], []⟩ :: ⟨9, [], []⟩ :: ⟨10, [], []⟩ :: ⟨11, [], []⟩ :: ⟨12, [], []⟩ :: ⟨7, [], [9, 11]⟩ :: ⟨13, [], []⟩ :: ⟨14, [], []⟩ :: ⟨15, [], []⟩ :: []))
(.seq
(.plain (
⟨(some 127), .mv (.tmp 22), none⟩ ::
⟨(some 128), .fa 1 (.tmp 16), none⟩ ::
⟨(some 129), .load true 32 (.tmp 128), none⟩ ::
⟨(some 130), .mv (.tmp 15), none⟩ ::
⟨(some 131), .fa 0 (.tmp 9), none⟩ ::
⟨(some 132), .load false 1 (.tmp 131), none⟩ ::
⟨(some 133), .mv (.tmp 3), none⟩ ::
⟨(some 134), .callF 17 [(.tmp 129), (.tmp 130), (.tmp 132), (.tmp 133)], none⟩ ::
⟨(some 135), .app 1 24 (.tmp 127) (.tmp 134), none⟩ ::
⟨(some 136), .callF 16 [(.tmp 135)], none⟩ ::
⟨(some 14), .mv (.tmp 136), none⟩ ::
[]))
.ret)))))))))))))
theorem prep3 : prepFunc Try.prog false 3 = some F3 := by kernel_rfl

-- indenture/indenturelaw34.LightFollows
def F4 : AFunc where
  ntmps := 152
  nparams := 3
  results := [(6, none)]
  code :=
(.seq
(.plain (
⟨(some 6), .mv (.const (.bool false)), none⟩ ::
[]))
(.seq
(.seq
(.plain (
⟨(some 18), .callF 6 [], none⟩ ::
⟨(some 19), .un .not (.tmp 18), none⟩ ::
[]))
(.cond (.tmp 19)
(.seq
(.plain (
⟨(some 6), .mv (.const (.bool false)), none⟩ ::
[]))
.ret)
.skip))
(.seq
(.seq
(.plain (
⟨(some 20), .mv (.tmp 0), none⟩ ::
⟨(some 21), .len (.tmp 20), none⟩ ::
⟨(some 22), .bin .gtr (.tmp 21) (.const (.int .i64 30)), none⟩ ::
[]))
(.cond (.tmp 22)
(.seq
(.plain (
⟨(some 6), .mv (.const (.bool true)), none⟩ ::
[]))
.ret)
.skip))
(.seq
(.plain (
⟨(some 23), .mv (.tmp 0), none⟩ ::
⟨(some 24), .mv (.tmp 1), none⟩ ::
⟨(some 25), .cvt .i64 (.tmp 24), none⟩ ::
⟨(some 26), .mv (.tmp 0), none⟩ ::
⟨(some 27), .len (.tmp 26), none⟩ ::
⟨(some 28), .bin .add (.tmp 27) (.const (.int .i64 1)), none⟩ ::
⟨(some 29), .bin .rem (.tmp 25) (.tmp 28), none⟩ ::
⟨(some 30), .callF 7 [(.tmp 23), (.tmp 29)], none⟩ ::
⟨(some 7), .alloc 26 ([(.v (.int .i64 0))] ++ List.replicate 64 (.v (.int .u8 0))), none⟩ ::
⟨none, .store 65 (.tmp 7) (.tmp 30), none⟩ ::
[]))
(.seq
(.draw (
⟨(some 32), .load true 65 (.tmp 7), none⟩ ::
⟨(some 33), .callF 9 [(.tmp 32)], none⟩ ::
⟨(some 34), .load true 65 (.tmp 7), none⟩ ::
⟨(some 35), .callF 8 [(.tmp 33), (.tmp 34)], none⟩ ::
⟨(some 31), .mv (.tmp 35), none⟩ ::
⟨(some 36), .ext (.tmp 31) 0, none⟩ ::
⟨(some 37), .ext (.tmp 31) 1, none⟩ ::
⟨(some 8), .mv (.tmp 36), none⟩ ::
⟨(some 9), .mv (.tmp 37), none⟩ ::
[])
(⟨0, [], []⟩ :: ⟨2, [], []⟩ :: ⟨1, [], [2]⟩ :: ⟨3, [], []⟩ :: ⟨4, [], []⟩ :: ⟨5, [], []⟩ :: ⟨6, [], []⟩ :: ⟨7, [], []⟩ :: ⟨8, [], []⟩ :: []))
(.seq
(.seq
(.plain (
⟨(some 38), .mv (.tmp 9), none⟩ ::
⟨(some 39), .bin .neq (.tmp 38) (.const (.int .i64 0)), none⟩ ::
⟨(some 40), .mv (.tmp 39), none⟩ ::
⟨(some 41), .mv (.tmp 8), (some (40, false))⟩ ::
⟨(some 42), .eqp false (.tmp 41) (.const (.pointer none)), (some (40, false))⟩ ::
⟨(some 43), .pick (.tmp 40) (.const (.bool true)) (.tmp 42), none⟩ ::
[]))
(.cond (.tmp 43)
(.seq
(.plain (
⟨(some 6), .mv (.const (.bool false)), none⟩ ::
[]))
.ret)
.skip))
(.seq
(.plain (
⟨(some 44), .load true 65 (.tmp 7), none⟩ ::
⟨(some 45), .bld ([(.v (.int .i64 0))] ++ List.replicate 64 (.v (.int .u8 0)) ++ [(.v (.int .i64 0))] ++ [(.v (.bool false))] ++ [(.v (.int .i64 0))] ++ List.replicate 64 (.v (.int .u8 0)) ++ [(.v (.int .i64 0))] ++ List.replicate 64 (.v (.int .u8 0))) [(0, 65, (.tmp 44))], none⟩ ::
⟨(some 46), .box 48 (.tmp 45), none⟩ ::
⟨(some 10), .mv (.tmp 46), none⟩ ::
[]))
(.seq
(.seq
(.plain (
⟨(some 11), .mv (.const (.int .i64 0)), none⟩ ::
[]))
(.block 0
(.loop
(.seq
(.seq
(.plain (
⟨(some 47), .mv (.tmp 11), none⟩ ::
⟨(some 48), .mv (.tmp 2), none⟩ ::
⟨(some 49), .len (.tmp 48), none⟩ ::
⟨(some 50), .bin .lss (.tmp 47) (.tmp 49), none⟩ ::
⟨(some 51), .mv (.tmp 50), none⟩ ::
⟨(some 52), .mv (.tmp 11), (some (51, true))⟩ ::
⟨(some 53), .bin .lss (.tmp 52) (.const (.int .i64 20)), (some (51, true))⟩ ::
⟨(some 54), .pick (.tmp 51) (.tmp 53) (.const (.bool false)), none⟩ ::
[]))
(.cond (.tmp 54)
.skip
(.exit 0)))
(.seq
(.block 1
(.seq
(.plain (
⟨(some 57), .mv (.tmp 2), none⟩ ::
⟨(some 58), .mv (.tmp 11), none⟩ ::
⟨(some 59), .iaS 102 (.tmp 57) (.tmp 58), none⟩ ::
⟨(some 60), .load true 102 (.tmp 59), none⟩ ::
⟨(some 12), .alloc 50 ([(.v (.int .u8 0))] ++ [(.v (.bool false))] ++ [(.v (.int .i64 0))] ++ List.replicate 64 (.v (.int .u8 0)) ++ [(.v (.bool false))] ++ List.replicate 32 (.v (.int .u8 0)) ++ [(.v (.bool false))] ++ [(.sl [] .nil)]), none⟩ ::
⟨none, .store 102 (.tmp 12) (.tmp 60), none⟩ ::
[]))
(.seq
(.seq
(.plain (
⟨(some 61), .fa 101 (.tmp 12), none⟩ ::
⟨(some 62), .load false 1 (.tmp 61), none⟩ ::
⟨(some 63), .len (.tmp 62), none⟩ ::
⟨(some 64), .bin .gtr (.tmp 63) (.const (.int .i64 100)), none⟩ ::
[]))
(.cond (.tmp 64)
(.seq
(.plain (
⟨(some 6), .mv (.const (.bool true)), none⟩ ::
[]))
.ret)
.skip))
(.seq
(.plain (
⟨(some 65), .fa 2 (.tmp 12), none⟩ ::
⟨(some 66), .load true 65 (.tmp 65), none⟩ ::
⟨(some 13), .alloc 26 ([(.v (.int .i64 0))] ++ List.replicate 64 (.v (.int .u8 0))), none⟩ ::
⟨none, .store 65 (.tmp 13) (.tmp 66), none⟩ ::
[]))
(.seq
(.seq
(.plain (
⟨(some 67), .fa 1 (.tmp 12), none⟩ ::
⟨(some 68), .load false 1 (.tmp 67), none⟩ ::
⟨(some 69), .un .not (.tmp 68), none⟩ ::
[]))
(.cond (.tmp 69)
(.plain (
⟨(some 70), .mv (.tmp 0), none⟩ ::
⟨(some 71), .fa 0 (.tmp 12), none⟩ ::
⟨(some 72), .load false 1 (.tmp 71), none⟩ ::
⟨(some 73), .cvt .i64 (.tmp 72), none⟩ ::
⟨(some 74), .mv (.tmp 0), none⟩ ::
⟨(some 75), .len (.tmp 74), none⟩ ::
⟨(some 76), .bin .add (.tmp 75) (.const (.int .i64 1)), none⟩ ::
⟨(some 77), .bin .rem (.tmp 73) (.tmp 76), none⟩ ::
⟨(some 78), .callF 7 [(.tmp 70), (.tmp 77)], none⟩ ::
⟨none, .store 65 (.tmp 13) (.tmp 78), none⟩ ::
[]))
.skip))
(.seq
(.plain (
⟨(some 79), .load true 65 (.tmp 13), none⟩ ::
⟨(some 80), .callF 9 [(.tmp 79)], none⟩ ::
⟨(some 14), .alloc 24 (List.replicate 32 (.v (.int .u8 0))), none⟩ ::
⟨none, .store 32 (.tmp 14) (.tmp 80), none⟩ ::
[]))
(.seq
(.seq
(.plain (
⟨(some 81), .fa 67 (.tmp 12), none⟩ ::
⟨(some 82), .load false 1 (.tmp 81), none⟩ ::
[]))
(.cond (.tmp 82)
(.plain (
⟨(some 83), .fa 68 (.tmp 12), none⟩ ::
⟨(some 84), .load true 32 (.tmp 83), none⟩ ::
⟨none, .store 32 (.tmp 14) (.tmp 84), none⟩ ::
[]))
.skip))
(.seq
(.plain (
⟨(some 85), .fa 101 (.tmp 12), none⟩ ::
⟨(some 86), .load false 1 (.tmp 85), none⟩ ::
⟨(some 15), .mv (.tmp 86), none⟩ ::
[]))
(.seq
(.seq
(.plain (
⟨(some 87), .fa 100 (.tmp 12), none⟩ ::
⟨(some 88), .load false 1 (.tmp 87), none⟩ ::
⟨(some 89), .un .not (.tmp 88), none⟩ ::
⟨(some 90), .mv (.tmp 89), none⟩ ::
⟨(some 91), .mv (.tmp 10), (some (90, true))⟩ ::
⟨(some 92), .nilc (.tmp 91), (some (90, true))⟩ ::
⟨(some 93), .fa 0 (.tmp 92), (some (90, true))⟩ ::
⟨(some 94), .fa 0 (.tmp 93), (some (90, true))⟩ ::
⟨(some 95), .load false 1 (.tmp 94), (some (90, true))⟩ ::
⟨(some 96), .mv (.tmp 0), (some (90, true))⟩ ::
⟨(some 97), .len (.tmp 96), (some (90, true))⟩ ::
⟨(some 98), .bin .leq (.tmp 95) (.tmp 97), (some (90, true))⟩ ::
⟨(some 99), .pick (.tmp 90) (.tmp 98) (.const (.bool false)), none⟩ ::
[]))
(.cond (.tmp 99)
(.draw (
⟨(some 101), .mv (.tmp 0), none⟩ ::
⟨(some 102), .fa 0 (.tmp 13), none⟩ ::
⟨(some 103), .load false 1 (.tmp 102), none⟩ ::
⟨(some 104), .mm true .i64 (.tmp 103) (.const (.int .i64 0)), none⟩ ::
⟨(some 105), .mv (.tmp 0), none⟩ ::
⟨(some 106), .len (.tmp 105), none⟩ ::
⟨(some 107), .mm false .i64 (.tmp 104) (.tmp 106), none⟩ ::
⟨(some 108), .slc 32 (.tmp 101) none (some (.tmp 107)), none⟩ ::
⟨(some 109), .mv (.tmp 10), none⟩ ::
⟨(some 110), .nilc (.tmp 109), none⟩ ::
⟨(some 111), .fa 0 (.tmp 110), none⟩ ::
⟨(some 112), .fa 0 (.tmp 111), none⟩ ::
⟨(some 113), .load false 1 (.tmp 112), none⟩ ::
⟨(some 114), .callF 18 [(.tmp 108), (.tmp 113)], none⟩ ::
⟨(some 100), .mv (.tmp 114), none⟩ ::
⟨(some 115), .ext (.tmp 100) 0, none⟩ ::
⟨(some 116), .ext (.tmp 100) 1, none⟩ ::
⟨(some 15), .mv (.tmp 115), none⟩ ::
[])
(⟨0, [], []⟩ :: ⟨1, [], []⟩ :: ⟨2, [], []⟩ :: ⟨3, [], []⟩ :: ⟨4, [], []⟩ :: ⟨5, [], []⟩ :: ⟨6, [], []⟩ :: ⟨7, [], []⟩ :: ⟨8, [], []⟩ :: ⟨9, [], []⟩ :: ⟨10, [], []⟩ :: ⟨11, [], []⟩ :: ⟨12, [], []⟩ :: ⟨13, [], []⟩ :: ⟨14, [], []⟩ :: ⟨15, [], []⟩ :: ⟨16, [], []⟩ :: ⟨17, [], []⟩ :: []))
.skip))
(.seq
(.seq
(.draw (
⟨(some 117), .mv (.tmp 8), none⟩ ::
⟨(some 118), .load true 32 (.tmp 14), none⟩ ::
⟨(some 119), .load true 65 (.tmp 13), none⟩ ::
⟨(some 120), .mv (.tmp 15), none⟩ ::
⟨(some 121), .callF 10 [(.tmp 117), (.tmp 118), (.tmp 119), (.tmp 120)], none⟩ ::
⟨(some 122), .mv (.tmp 10), none⟩ ::
⟨(some 123), .load true 32 (.tmp 14), none⟩ ::
⟨(some 124), .load true 65 (.tmp 13), none⟩ ::
⟨(some 125), .mv (.tmp 15), none⟩ ::
⟨(some 126), .callF 19 [(.tmp 122), (.tmp 123), (.tmp 124), (.tmp 125)], none⟩ ::
⟨(some 127), .bin .neq (.tmp 121) (.tmp 126), none⟩ ::
⟨(some 128), .mv (.tmp 127), none⟩ ::
⟨(some 129), .mv (.tmp 8), (some (128, false))⟩ ::
⟨(some 130), .mv (.tmp 10), (some (128, false))⟩ ::
⟨(some 131), .callF 20 [(.tmp 129), (.tmp 130)], (some (128, false))⟩ ::
⟨(some 132), .un .not (.tmp 131), (some (128, false))⟩ ::
⟨(some 133), .pick (.tmp 128) (.const (.bool true)) (.tmp 132), none⟩ ::
[])
(⟨0, [], []⟩ :: ⟨1, [], []⟩ :: ⟨2, [], []⟩ :: ⟨3, [], []⟩ :: ⟨5, [], []⟩ :: ⟨6, [], []⟩ :: ⟨7, [], []⟩ :: ⟨8, [], []⟩ :: ⟨4, [], [6, 7]⟩ :: ⟨9, [], []⟩ :: ⟨10, [], []⟩ :: ⟨11, [], []⟩ :: ⟨12, [], []⟩ :: ⟨13, [], []⟩ :: ⟨14, [], []⟩ :: ⟨15, [], []⟩ :: ⟨16, [], []⟩ :: []))
(.cond (.tmp 133)
(.seq
(.plain (
⟨(some 6), .mv (.const (.bool false)), none⟩ ::
[]))
.ret)
.skip))
(.seq
(.plain (
⟨(some 135), .mv (.tmp 8), none⟩ ::
⟨(some 136), .callF 22 [(.tmp 135)], none⟩ ::
⟨(some 137), .callF 21 [(.tmp 136)], none⟩ ::
⟨(some 134), .mv (.tmp 137), none⟩ ::
⟨(some 138), .ext (.tmp 134) 0, none⟩ ::
⟨(some 139), .ext (.tmp 134) 1, none⟩ ::
⟨(some 16), .mv (.tmp 138), none⟩ ::
⟨(some 17), .mv (.tmp 139), none⟩ ::
[]))
(.seq
(.plain (
⟨(some 140), .mv (.tmp 17), none⟩ ::
⟨(some 141), .bin .neq (.tmp 140) (.const (.int .i64 0)), none⟩ ::
⟨(some 142), .mv (.tmp 141), none⟩ ::
⟨(some 143), .mv (.tmp 16), (some (142, false))⟩ ::
⟨(some 144), .eqp false (.tmp 143) (.const (.pointer none)), (some (142, false))⟩ ::
⟨(some 145), .pick (.tmp 142) (.const (.bool true)) (.tmp 144), none⟩ ::
⟨(some 146), .mv (.tmp 145), none⟩ ::
⟨(some 147), .mv (.tmp 16), (some (146, false))⟩ ::
⟨(some 148), .mv (.tmp 10), (some (146, false))⟩ ::
⟨(some 149), .callF 20 [(.tmp 147), (.tmp 148)], (some (146, false))⟩ ::
⟨(some 150), .un .not (.tmp 149), (some (146, false))⟩ ::
⟨(some 151), .pick (.tmp 146) (.const (.bool true)) (.tmp 150), none⟩ ::
[]))
(.cond (.tmp 151)
(.seq
(.plain (
⟨(some 6), .mv (.const (.bool false)), none⟩ ::
[]))
.ret)
.skip)))))))))))))
(.plain (
⟨(some 55), .mv (.tmp 11), none⟩ ::
⟨(some 56), .bin .add (.tmp 55) (.const (.int .i64 1)), none⟩ ::
⟨(some 11), .mv (.tmp 56), none⟩ ::
[])))))))
(.seq
(.plain (
⟨(some 6), .mv (.const (.bool true)), none⟩ ::
[]))
.ret)))))))))
theorem prep4 : prepFunc Try.prog false 4 = some F4 := by kernel_rfl

-- indenture/indenturelaw34.LightLoads
def F5 : AFunc where
  ntmps := 102
  nparams := 5
  results := [(10, none)]
  code :=
(.seq
(.plain (
⟨(some 5), .box 48 (.tmp 0), none⟩ ::
⟨(some 10), .mv (.const (.bool false)), none⟩ ::
[]))
(.seq
(.seq
(.plain (
⟨(some 17), .callF 6 [], none⟩ ::
⟨(some 18), .un .not (.tmp 17), none⟩ ::
[]))
(.cond (.tmp 18)
(.seq
(.plain (
⟨(some 10), .mv (.const (.bool false)), none⟩ ::
[]))
.ret)
.skip))
(.seq
(.seq
(.plain (
⟨(some 19), .mv (.tmp 4), none⟩ ::
⟨(some 20), .len (.tmp 19), none⟩ ::
⟨(some 21), .bin .gtr (.tmp 20) (.const (.int .i64 300)), none⟩ ::
[]))
(.cond (.tmp 21)
(.seq
(.plain (
⟨(some 10), .mv (.const (.bool true)), none⟩ ::
[]))
.ret)
.skip))
(.seq
(.plain (
⟨(some 22), .callF 23 [(.tmp 5)], none⟩ ::
⟨(some 23), .mv (.tmp 4), none⟩ ::
⟨(some 24), .appM 1 1 (.tmp 22) (.tmp 23), none⟩ ::
⟨(some 11), .mv (.tmp 24), none⟩ ::
[]))
(.seq
(.seq
(.plain (
⟨(some 25), .mv (.tmp 1), none⟩ ::
⟨(some 26), .bin .geq (.tmp 25) (.const (.int .i64 0)), none⟩ ::
⟨(some 27), .mv (.tmp 26), none⟩ ::
⟨(some 28), .mv (.tmp 1), (some (27, true))⟩ ::
⟨(some 29), .mv (.tmp 11), (some (27, true))⟩ ::
⟨(some 30), .len (.tmp 29), (some (27, true))⟩ ::
⟨(some 31), .bin .lss (.tmp 28) (.tmp 30), (some (27, true))⟩ ::
⟨(some 32), .pick (.tmp 27) (.tmp 31) (.const (.bool false)), none⟩ ::
[]))
(.cond (.tmp 32)
(.plain (
⟨(some 33), .mv (.tmp 11), none⟩ ::
⟨(some 34), .mv (.tmp 1), none⟩ ::
⟨(some 35), .mv (.tmp 11), none⟩ ::
⟨(some 36), .mv (.tmp 1), none⟩ ::
⟨(some 37), .iaS 1 (.tmp 35) (.tmp 36), none⟩ ::
⟨(some 38), .load false 1 (.tmp 37), none⟩ ::
⟨(some 39), .mv (.tmp 2), none⟩ ::
⟨(some 40), .bin .xor (.tmp 38) (.tmp 39), none⟩ ::
⟨(some 41), .iaS 1 (.tmp 33) (.tmp 34), none⟩ ::
⟨none, .store 1 (.tmp 41) (.tmp 40), none⟩ ::
[]))
.skip))
(.seq
(.seq
(.plain (
⟨(some 42), .mv (.tmp 3), none⟩ ::
⟨(some 43), .bin .geq (.tmp 42) (.const (.int .i64 0)), none⟩ ::
⟨(some 44), .mv (.tmp 43), none⟩ ::
⟨(some 45), .mv (.tmp 3), (some (44, true))⟩ ::
⟨(some 46), .mv (.tmp 11), (some (44, true))⟩ ::
⟨(some 47), .len (.tmp 46), (some (44, true))⟩ ::
⟨(some 48), .bin .lss (.tmp 45) (.tmp 47), (some (44, true))⟩ ::
⟨(some 49), .pick (.tmp 44) (.tmp 48) (.const (.bool false)), none⟩ ::
[]))
(.cond (.tmp 49)
(.plain (
⟨(some 50), .mv (.tmp 11), none⟩ ::
⟨(some 51), .mv (.tmp 3), none⟩ ::
⟨(some 52), .slc 1 (.tmp 50) none (some (.tmp 51)), none⟩ ::
⟨(some 11), .mv (.tmp 52), none⟩ ::
[]))
.skip))
(.seq
(.plain (
⟨(some 54), .mv (.tmp 11), none⟩ ::
⟨(some 55), .callF 21 [(.tmp 54)], none⟩ ::
⟨(some 53), .mv (.tmp 55), none⟩ ::
⟨(some 56), .ext (.tmp 53) 0, none⟩ ::
⟨(some 57), .ext (.tmp 53) 1, none⟩ ::
⟨(some 12), .mv (.tmp 56), none⟩ ::
⟨(some 13), .mv (.tmp 57), none⟩ ::
[]))
(.seq
(.seq
(.plain (
⟨(some 58), .mv (.tmp 13), none⟩ ::
⟨(some 59), .bin .neq (.tmp 58) (.const (.int .i64 0)), none⟩ ::
[]))
(.cond (.tmp 59)
(.seq
(.plain (
⟨(some 60), .mv (.tmp 13), none⟩ ::
⟨(some 61), .bin .eql (.tmp 60) (.const (.int .i64 21)), none⟩ ::
⟨(some 62), .mv (.tmp 61), none⟩ ::
⟨(some 63), .mv (.tmp 12), (some (62, true))⟩ ::
⟨(some 64), .eqp false (.tmp 63) (.const (.pointer none)), (some (62, true))⟩ ::
⟨(some 65), .pick (.tmp 62) (.tmp 64) (.const (.bool false)), none⟩ ::
⟨(some 10), .mv (.tmp 65), none⟩ ::
[]))
.ret)
.skip))
(.seq
(.plain (
⟨(some 67), .mv (.tmp 12), none⟩ ::
⟨(some 68), .callF 24 [(.tmp 67)], none⟩ ::
⟨(some 66), .mv (.tmp 68), none⟩ ::
⟨(some 69), .ext (.tmp 66) 0, none⟩ ::
⟨(some 70), .ext (.tmp 66) 1, none⟩ ::
⟨(some 71), .ext (.tmp 66) 2, none⟩ ::
⟨(some 14), .alloc 26 ([(.v (.int .i64 0))] ++ List.replicate 64 (.v (.int .u8 0))), none⟩ ::
⟨(some 15), .alloc 26 ([(.v (.int .i64 0))] ++ List.replicate 64 (.v (.int .u8 0))), none⟩ ::
⟨none, .store 65 (.tmp 14) (.tmp 69), none⟩ ::
⟨none, .store 65 (.tmp 15) (.tmp 70), none⟩ ::
⟨(some 16), .mv (.tmp 71), none⟩ ::
[]))
(.seq
(.seq
(.plain (
⟨(some 72), .mv (.tmp 16), none⟩ ::
⟨(some 73), .mv (.tmp 72), none⟩ ::
⟨(some 74), .fa 0 (.tmp 14), (some (73, true))⟩ ::
⟨(some 75), .load false 1 (.tmp 74), (some (73, true))⟩ ::
⟨(some 76), .fa 0 (.tmp 15), (some (73, true))⟩ ::
⟨(some 77), .load false 1 (.tmp 76), (some (73, true))⟩ ::
⟨(some 78), .bin .gtr (.tmp 75) (.tmp 77), (some (73, true))⟩ ::
⟨(some 79), .mv (.tmp 78), (some (73, true))⟩ ::
⟨(some 80), .load true 65 (.tmp 14), (some (79, false))⟩ ::
⟨(some 81), .load true 65 (.tmp 15), (some (79, false))⟩ ::
⟨(some 82), .eqv false [(1, .int .i64), (64, .int .u8)] (.tmp 80) (.tmp 81), (some (79, false))⟩ ::
⟨(some 83), .pick (.tmp 79) (.const (.bool true)) (.tmp 82), (some (73, true))⟩ ::
⟨(some 84), .pick (.tmp 73) (.tmp 83) (.const (.bool false)), none⟩ ::
[]))
(.cond (.tmp 84)
(.seq
(.plain (
⟨(some 10), .mv (.const (.bool false)), none⟩ ::
[]))
.ret)
.skip))
(.seq
(.draw (
⟨(some 85), .mv (.tmp 12), none⟩ ::
⟨(some 86), .callF 22 [(.tmp 85)], none⟩ ::
⟨(some 87), .b2s (.tmp 86), none⟩ ::
⟨(some 88), .mv (.tmp 11), none⟩ ::
⟨(some 89), .b2sM (.tmp 88), none⟩ ::
⟨(some 90), .bin .eql (.tmp 87) (.tmp 89), none⟩ ::
⟨(some 91), .mv (.tmp 90), none⟩ ::
⟨(some 92), .mv (.tmp 12), (some (91, true))⟩ ::
⟨(some 93), .callF 11 [(.tmp 92)], (some (91, true))⟩ ::
⟨(some 94), .fld false 0 1 (.tmp 93), (some (91, true))⟩ ::
⟨(some 95), .bin .geq (.tmp 94) (.const (.int .i64 0)), (some (91, true))⟩ ::
⟨(some 96), .pick (.tmp 91) (.tmp 95) (.const (.bool false)), none⟩ ::
⟨(some 97), .mv (.tmp 96), none⟩ ::
⟨(some 98), .mv (.tmp 12), (some (97, true))⟩ ::
⟨(some 99), .callF 13 [(.tmp 98)], (some (97, true))⟩ ::
⟨(some 100), .bin .geq (.tmp 99) (.const (.int .i64 0)), (some (97, true))⟩ ::
⟨(some 101), .pick (.tmp 97) (.tmp 100) (.const (.bool false)), none⟩ ::
⟨(some 10), .mv (.tmp 101), none⟩ ::
[])
(⟨0, [], []⟩ :: ⟨3, [], []⟩ :: ⟨4, [], []⟩ :: ⟨1, [], [4]⟩ :: ⟨2, [], []⟩ :: ⟨5, [], []⟩ :: ⟨6, [], []⟩ :: ⟨7, [], []⟩ :: ⟨8, [], []⟩ :: ⟨9, [], []⟩ :: ⟨10, [], []⟩ :: ⟨11, [], []⟩ :: ⟨12, [], []⟩ :: ⟨13, [], []⟩ :: ⟨14, [], []⟩ :: ⟨15, [], []⟩ :: ⟨16, [], []⟩ :: ⟨17, [], []⟩ :: []))
.ret)))))))))))
theorem prep5 : prepFunc Try.prog false 5 = some F5 := by kernel_rfl

-- indenture/indenturelaw34.alive
def F6 : AFunc where
  ntmps := 80
  nparams := 0
  results := [(0, none)]
  code :=
(.seq
(.plain (
⟨(some 0), .mv (.const (.bool false)), none⟩ ::
[]))
(.seq
(.plain (
⟨(some 13), .bld (List.replicate 32 (.v (.int .u8 0))) [(0, 1, (.const (.int .u8 1)))], none⟩ ::
⟨(some 14), .bld (List.replicate 32 (.v (.int .u8 0))) [(0, 1, (.const (.int .u8 2)))], none⟩ ::
⟨(some 15), .bld (List.replicate 32 (.v (.int .u8 0))) [(0, 1, (.const (.int .u8 3)))], none⟩ ::
⟨(some 16), .bsl 32 [(.tmp 13), (.tmp 14), (.tmp 15)], none⟩ ::
⟨(some 1), .mv (.tmp 16), none⟩ ::
[]))
(.seq
(.plain (
⟨(some 17), .mv (.tmp 1), none⟩ ::
⟨(some 18), .callF 7 [(.tmp 17), (.const (.int .i64 1))], none⟩ ::
⟨(some 19), .mv (.tmp 1), none⟩ ::
⟨(some 20), .callF 7 [(.tmp 19), (.const (.int .i64 3))], none⟩ ::
⟨(some 2), .alloc 26 ([(.v (.int .i64 0))] ++ List.replicate 64 (.v (.int .u8 0))), none⟩ ::
⟨(some 3), .alloc 26 ([(.v (.int .i64 0))] ++ List.replicate 64 (.v (.int .u8 0))), none⟩ ::
⟨none, .store 65 (.tmp 2) (.tmp 18), none⟩ ::
⟨none, .store 65 (.tmp 3) (.tmp 20), none⟩ ::
[]))
(.seq
(.draw (
⟨(some 22), .load true 65 (.tmp 2), none⟩ ::
⟨(some 23), .callF 9 [(.tmp 22)], none⟩ ::
⟨(some 24), .load true 65 (.tmp 2), none⟩ ::
⟨(some 25), .callF 8 [(.tmp 23), (.tmp 24)], none⟩ ::
⟨(some 21), .mv (.tmp 25), none⟩ ::
⟨(some 26), .ext (.tmp 21) 0, none⟩ ::
⟨(some 27), .ext (.tmp 21) 1, none⟩ ::
⟨(some 4), .mv (.tmp 26), none⟩ ::
⟨(some 5), .mv (.tmp 27), none⟩ ::
[])
(⟨0, [], []⟩ :: ⟨2, [], []⟩ :: ⟨1, [], [2]⟩ :: ⟨3, [], []⟩ :: ⟨4, [], []⟩ :: ⟨5, [], []⟩ :: ⟨6, [], []⟩ :: ⟨7, [], []⟩ :: ⟨8, [], []⟩ :: []))
(.seq
(.seq
(.plain (
⟨(some 28), .mv (.tmp 5), none⟩ ::
⟨(some 29), .bin .neq (.tmp 28) (.const (.int .i64 0)), none⟩ ::
⟨(some 30), .mv (.tmp 29), none⟩ ::
⟨(some 31), .mv (.tmp 4), (some (30, false))⟩ ::
⟨(some 32), .eqp false (.tmp 31) (.const (.pointer none)), (some (30, false))⟩ ::
⟨(some 33), .pick (.tmp 30) (.const (.bool true)) (.tmp 32), none⟩ ::
[]))
(.cond (.tmp 33)
(.seq
(.plain (
⟨(some 0), .mv (.const (.bool false)), none⟩ ::
[]))
.ret)
.skip))
(.seq
(.plain (
⟨(some 35), .mv (.tmp 1), none⟩ ::
⟨(some 36), .callF 18 [(.tmp 35), (.const (.int .i64 1))], none⟩ ::
⟨(some 34), .mv (.tmp 36), none⟩ ::
⟨(some 37), .ext (.tmp 34) 0, none⟩ ::
⟨(some 38), .ext (.tmp 34) 1, none⟩ ::
⟨(some 6), .mv (.tmp 37), none⟩ ::
⟨(some 7), .mv (.tmp 38), none⟩ ::
[]))
(.seq
(.draw (
⟨(some 39), .mv (.tmp 4), none⟩ ::
⟨(some 40), .load true 65 (.tmp 3), none⟩ ::
⟨(some 41), .callF 9 [(.tmp 40)], none⟩ ::
⟨(some 42), .load true 65 (.tmp 3), none⟩ ::
⟨(some 43), .mv (.tmp 6), none⟩ ::
⟨(some 44), .callF 10 [(.tmp 39), (.tmp 41), (.tmp 42), (.tmp 43)], none⟩ ::
⟨(some 8), .mv (.tmp 44), none⟩ ::
[])
(⟨0, [], []⟩ :: ⟨1, [], []⟩ :: ⟨3, [], []⟩ :: ⟨4, [], []⟩ :: ⟨2, [], [3]⟩ :: ⟨5, [], []⟩ :: ⟨6, [], []⟩ :: []))
(.seq
(.draw (
⟨(some 45), .mv (.tmp 4), none⟩ ::
⟨(some 46), .load true 65 (.tmp 2), none⟩ ::
⟨(some 47), .callF 9 [(.tmp 46)], none⟩ ::
⟨(some 48), .load true 65 (.tmp 2), none⟩ ::
⟨(some 49), .callF 10 [(.tmp 45), (.tmp 47), (.tmp 48), (.const (.slice none 0 0))], none⟩ ::
⟨(some 9), .mv (.tmp 49), none⟩ ::
[])
(⟨0, [], []⟩ :: ⟨1, [], []⟩ :: ⟨3, [], []⟩ :: ⟨2, [], [3]⟩ :: ⟨4, [], []⟩ :: ⟨5, [], []⟩ :: []))
(.seq
(.plain (
⟨(some 51), .mv (.tmp 4), none⟩ ::
⟨(some 52), .callF 24 [(.tmp 51)], none⟩ ::
⟨(some 50), .mv (.tmp 52), none⟩ ::
⟨(some 53), .ext (.tmp 50) 0, none⟩ ::
⟨(some 54), .ext (.tmp 50) 1, none⟩ ::
⟨(some 55), .ext (.tmp 50) 2, none⟩ ::
⟨(some 10), .alloc 26 ([(.v (.int .i64 0))] ++ List.replicate 64 (.v (.int .u8 0))), none⟩ ::
⟨(some 11), .alloc 26 ([(.v (.int .i64 0))] ++ List.replicate 64 (.v (.int .u8 0))), none⟩ ::
⟨none, .store 65 (.tmp 10) (.tmp 53), none⟩ ::
⟨none, .store 65 (.tmp 11) (.tmp 54), none⟩ ::
⟨(some 12), .mv (.tmp 55), none⟩ ::
[]))
(.seq
(.plain (
⟨(some 56), .mv (.tmp 8), none⟩ ::
⟨(some 57), .bin .eql (.tmp 56) (.const (.int .i64 0)), none⟩ ::
⟨(some 58), .mv (.tmp 57), none⟩ ::
⟨(some 59), .mv (.tmp 9), (some (58, true))⟩ ::
⟨(some 60), .bin .eql (.tmp 59) (.const (.int .i64 42)), (some (58, true))⟩ ::
⟨(some 61), .pick (.tmp 58) (.tmp 60) (.const (.bool false)), none⟩ ::
⟨(some 62), .mv (.tmp 61), none⟩ ::
⟨(some 63), .mv (.tmp 12), (some (62, true))⟩ ::
⟨(some 64), .pick (.tmp 62) (.tmp 63) (.const (.bool false)), none⟩ ::
⟨(some 65), .mv (.tmp 64), none⟩ ::
⟨(some 66), .load true 65 (.tmp 10), (some (65, true))⟩ ::
⟨(some 67), .load true 65 (.tmp 2), (some (65, true))⟩ ::
⟨(some 68), .eqv false [(1, .int .i64), (64, .int .u8)] (.tmp 66) (.tmp 67), (some (65, true))⟩ ::
⟨(some 69), .pick (.tmp 65) (.tmp 68) (.const (.bool false)), none⟩ ::
⟨(some 70), .mv (.tmp 69), none⟩ ::
⟨(some 71), .load true 65 (.tmp 11), (some (70, true))⟩ ::
⟨(some 72), .load true 65 (.tmp 3), (some (70, true))⟩ ::
⟨(some 73), .eqv false [(1, .int .i64), (64, .int .u8)] (.tmp 71) (.tmp 72), (some (70, true))⟩ ::
⟨(some 74), .pick (.tmp 70) (.tmp 73) (.const (.bool false)), none⟩ ::
⟨(some 75), .mv (.tmp 74), none⟩ ::
⟨(some 76), .mv (.tmp 4), (some (75, true))⟩ ::
⟨(some 77), .callF 13 [(.tmp 76)], (some (75, true))⟩ ::
⟨(some 78), .bin .eql (.tmp 77) (.const (.int .i64 1)), (some (75, true))⟩ ::
⟨(some 79), .pick (.tmp 75) (.tmp 78) (.const (.bool false)), none⟩ ::
⟨(some 0), .mv (.tmp 79), none⟩ ::
[]))
.ret))))))))))
theorem prep6 : prepFunc Try.prog false 6 = some F6 := by kernel_rfl

-- indenture/indenturelaw34.opened
def F7 : AFunc where
  ntmps := 21
  nparams := 2
  results := [(4, (some (true, 65)))]
  code :=
(.seq
(.plain (
⟨(some 4), .alloc 26 ([(.v (.int .i64 0))] ++ List.replicate 64 (.v (.int .u8 0))), none⟩ ::
[]))
(.seq
(.plain (
⟨(some 6), .mv (.tmp 1), none⟩ ::
⟨(some 7), .mv (.tmp 0), none⟩ ::
⟨(some 8), .mv (.tmp 1), none⟩ ::
⟨(some 9), .slc 32 (.tmp 7) none (some (.tmp 8)), none⟩ ::
⟨(some 10), .callF 25 [(.tmp 9)], none⟩ ::
⟨(some 11), .bld ([(.v (.int .i64 0))] ++ List.replicate 64 (.v (.int .u8 0))) [(0, 1, (.tmp 6)), (1, 32, (.tmp 10))], none⟩ ::
⟨(some 5), .alloc 26 ([(.v (.int .i64 0))] ++ List.replicate 64 (.v (.int .u8 0))), none⟩ ::
⟨none, .store 65 (.tmp 5) (.tmp 11), none⟩ ::
[]))
(.seq
(.seq
(.plain (
⟨(some 12), .mv (.tmp 1), none⟩ ::
⟨(some 13), .bin .gtr (.tmp 12) (.const (.int .i64 0)), none⟩ ::
[]))
(.cond (.tmp 13)
(.plain (
⟨(some 14), .mv (.tmp 0), none⟩ ::
⟨(some 15), .mv (.tmp 1), none⟩ ::
⟨(some 16), .bin .sub (.tmp 15) (.const (.int .i64 1)), none⟩ ::
⟨(some 17), .iaS 32 (.tmp 14) (.tmp 16), none⟩ ::
⟨(some 18), .load true 32 (.tmp 17), none⟩ ::
⟨(some 19), .fa 33 (.tmp 5), none⟩ ::
⟨none, .store 32 (.tmp 19) (.tmp 18), none⟩ ::
[]))
.skip))
(.seq
(.plain (
⟨(some 20), .load true 65 (.tmp 5), none⟩ ::
⟨none, .store 65 (.tmp 4) (.tmp 20), none⟩ ::
[]))
.ret))))
theorem prep7 : prepFunc Try.prog false 7 = some F7 := by kernel_rfl

-- indenture/light.Follow
def F8 : AFunc where
  ntmps := 18
  nparams := 2
  results := [(4, none), (5, none)]
  code :=
(.seq
(.plain (
⟨(some 2), .box 24 (.tmp 0), none⟩ ::
⟨(some 3), .box 26 (.tmp 1), none⟩ ::
⟨(some 4), .mv (.const (.pointer none)), none⟩ ::
⟨(some 5), .mv (.const (.int .i64 0)), none⟩ ::
[]))
(.seq
(.block 0
(.seq
(.draw (
⟨(some 7), .load true 65 (.tmp 3), none⟩ ::
⟨(some 8), .callF 26 [(.tmp 7)], none⟩ ::
⟨(some 9), .load true 32 (.tmp 2), none⟩ ::
⟨(some 10), .eqv true [(32, .int .u8)] (.tmp 8) (.tmp 9), none⟩ ::
⟨(some 6), .mv (.tmp 10), none⟩ ::
[])
(⟨0, [], []⟩ :: ⟨2, [], []⟩ :: ⟨1, [], [2]⟩ :: ⟨3, [], []⟩ :: ⟨4, [], []⟩ :: []))
(.cond (.tmp 6)
(.seq
(.plain (
⟨(some 4), .mv (.const (.pointer none)), none⟩ ::
⟨(some 5), .mv (.const (.int .i64 41)), none⟩ ::
[]))
.ret)
(.seq
(.plain (
⟨(some 12), .load true 65 (.tmp 3), none⟩ ::
⟨(some 13), .callF 27 [(.tmp 12)], none⟩ ::
⟨(some 14), .un .not (.tmp 13), none⟩ ::
⟨(some 11), .mv (.tmp 14), none⟩ ::
[]))
(.cond (.tmp 11)
(.seq
(.plain (
⟨(some 4), .mv (.const (.pointer none)), none⟩ ::
⟨(some 5), .mv (.const (.int .i64 1)), none⟩ ::
[]))
.ret)
.skip)))))
(.seq
(.plain (
⟨(some 15), .load true 65 (.tmp 3), none⟩ ::
⟨(some 16), .bld ([(.v (.int .i64 0))] ++ List.replicate 64 (.v (.int .u8 0)) ++ [(.v (.int .i64 0))] ++ [(.v (.pointer none))]) [(0, 65, (.tmp 15))], none⟩ ::
⟨(some 17), .box 64 (.tmp 16), none⟩ ::
⟨(some 4), .mv (.tmp 17), none⟩ ::
⟨(some 5), .mv (.const (.int .i64 0)), none⟩ ::
[]))
.ret)))
theorem prep8 : prepFunc Try.prog false 8 = some F8 := by kernel_rfl

-- indenture/ledger.Sum
def F9 : AFunc where
  ntmps := 5
  nparams := 1
  results := [(2, (some (true, 32)))]
  code :=
(.seq
(.plain (
⟨(some 1), .box 26 (.tmp 0), none⟩ ::
⟨(some 2), .alloc 24 (List.replicate 32 (.v (.int .u8 0))), none⟩ ::
[]))
(.seq
(.plain (
⟨(some 3), .load true 65 (.tmp 1), none⟩ ::
⟨(some 4), .callF 26 [(.tmp 3)], none⟩ ::
⟨none, .store 32 (.tmp 2) (.tmp 4), none⟩ ::
[]))
.ret))
theorem prep9 : prepFunc Try.prog false 9 = some F9 := by kernel_rfl

-- (*indenture/light.Follower).Next
def F10 : AFunc where
  ntmps := 64
  nparams := 4
  results := [(8, none)]
  code :=
(.seq
(.plain (
⟨(some 5), .box 24 (.tmp 1), none⟩ ::
⟨(some 6), .box 26 (.tmp 2), none⟩ ::
⟨(some 8), .mv (.const (.int .i64 0)), none⟩ ::
[]))
(.seq
(.block 0
(.seq
(.draw (
⟨(some 10), .load true 65 (.tmp 6), none⟩ ::
⟨(some 11), .callF 26 [(.tmp 10)], none⟩ ::
⟨(some 12), .load true 32 (.tmp 5), none⟩ ::
⟨(some 13), .eqv true [(32, .int .u8)] (.tmp 11) (.tmp 12), none⟩ ::
⟨(some 9), .mv (.tmp 13), none⟩ ::
[])
(⟨0, [], []⟩ :: ⟨2, [], []⟩ :: ⟨1, [], [2]⟩ :: ⟨3, [], []⟩ :: ⟨4, [], []⟩ :: []))
(.cond (.tmp 9)
(.seq
(.plain (
⟨(some 8), .mv (.const (.int .i64 41)), none⟩ ::
[]))
.ret)
(.seq
(.draw (
⟨(some 15), .load true 32 (.tmp 5), none⟩ ::
⟨(some 16), .mv (.tmp 0), none⟩ ::
⟨(some 17), .callF 28 [(.tmp 16)], none⟩ ::
⟨(some 18), .eqv false [(32, .int .u8)] (.tmp 15) (.tmp 17), none⟩ ::
⟨(some 14), .mv (.tmp 18), none⟩ ::
[])
(⟨0, [], []⟩ :: ⟨1, [], []⟩ :: ⟨2, [], [0]⟩ :: ⟨3, [], []⟩ :: ⟨4, [], []⟩ :: []))
(.cond (.tmp 14)
(.seq
(.plain (
⟨(some 8), .mv (.const (.int .i64 0)), none⟩ ::
[]))
.ret)
(.seq
(.plain (
⟨(some 20), .load true 65 (.tmp 6), none⟩ ::
⟨(some 21), .callF 27 [(.tmp 20)], none⟩ ::
⟨(some 22), .un .not (.tmp 21), none⟩ ::
⟨(some 19), .mv (.tmp 22), none⟩ ::
[]))
(.cond (.tmp 19)
(.seq
(.plain (
⟨(some 8), .mv (.const (.int .i64 42)), none⟩ ::
[]))
.ret)
(.seq
(.draw (
⟨(some 24), .fa 0 (.tmp 6), none⟩ ::
⟨(some 25), .load false 1 (.tmp 24), none⟩ ::
⟨(some 26), .mv (.tmp 0), none⟩ ::
⟨(some 27), .nilc (.tmp 26), none⟩ ::
⟨(some 28), .fa 0 (.tmp 27), none⟩ ::
⟨(some 29), .fa 0 (.tmp 28), none⟩ ::
⟨(some 30), .load false 1 (.tmp 29), none⟩ ::
⟨(some 31), .bin .leq (.tmp 25) (.tmp 30), none⟩ ::
⟨(some 23), .mv (.tmp 31), none⟩ ::
[])
(⟨0, [], []⟩ :: ⟨1, [], []⟩ :: ⟨2, [], []⟩ :: ⟨3, [], []⟩ :: ⟨4, [], []⟩ :: ⟨5, [], []⟩ :: ⟨6, [], []⟩ :: ⟨7, [], []⟩ :: ⟨8, [], []⟩ :: []))
(.cond (.tmp 23)
(.seq
(.plain (
⟨(some 32), .mv (.tmp 0), none⟩ ::
⟨(some 33), .load true 65 (.tmp 6), none⟩ ::
⟨(some 34), .callF 29 [(.tmp 32), (.tmp 33)], none⟩ ::
[]))
(.seq
(.plain (
⟨(some 8), .mv (.const (.int .i64 42)), none⟩ ::
[]))
.ret))
(.seq
(.draw (
⟨(some 36), .mv (.tmp 0), none⟩ ::
⟨(some 37), .nilc (.tmp 36), none⟩ ::
⟨(some 38), .fa 0 (.tmp 37), none⟩ ::
⟨(some 39), .fa 1 (.tmp 38), none⟩ ::
⟨(some 40), .load true 32 (.tmp 39), none⟩ ::
⟨(some 41), .mv (.tmp 0), none⟩ ::
⟨(some 42), .nilc (.tmp 41), none⟩ ::
⟨(some 43), .fa 0 (.tmp 42), none⟩ ::
⟨(some 44), .fa 0 (.tmp 43), none⟩ ::
⟨(some 45), .load false 1 (.tmp 44), none⟩ ::
⟨(some 46), .fa 1 (.tmp 6), none⟩ ::
⟨(some 47), .load true 32 (.tmp 46), none⟩ ::
⟨(some 48), .fa 0 (.tmp 6), none⟩ ::
⟨(some 49), .load false 1 (.tmp 48), none⟩ ::
⟨(some 50), .mv (.tmp 3), none⟩ ::
⟨(some 51), .callF 30 [(.tmp 40), (.tmp 45), (.tmp 47), (.tmp 49), (.tmp 50)], none⟩ ::
⟨(some 52), .un .not (.tmp 51), none⟩ ::
⟨(some 35), .mv (.tmp 52), none⟩ ::
[])
(⟨0, [], []⟩ :: ⟨1, [], []⟩ :: ⟨2, [], []⟩ :: ⟨3, [], []⟩ :: ⟨4, [], []⟩ :: ⟨5, [], []⟩ :: ⟨6, [], []⟩ :: ⟨7, [], []⟩ :: ⟨8, [], []⟩ :: ⟨9, [], []⟩ :: ⟨10, [], []⟩ :: ⟨11, [], []⟩ :: ⟨12, [], []⟩ :: ⟨13, [], []⟩ :: ⟨14, [], []⟩ :: ⟨15, [], []⟩ :: ⟨16, [], []⟩ :: ⟨17, [], []⟩ :: []))
(.cond (.tmp 35)
(.seq
(.plain (
⟨(some 8), .mv (.const (.int .i64 42)), none⟩ ::
[]))
.ret)
.skip)))))))))))
(.seq
(.plain (
⟨(some 53), .mv (.tmp 0), none⟩ ::
⟨(some 54), .load true 65 (.tmp 6), none⟩ ::
⟨(some 55), .nilc (.tmp 53), none⟩ ::
⟨(some 56), .fa 0 (.tmp 55), none⟩ ::
⟨none, .store 65 (.tmp 56) (.tmp 54), none⟩ ::
[]))
(.seq
(.plain (
⟨(some 57), .mv (.tmp 0), none⟩ ::
⟨(some 58), .nilc (.tmp 57), none⟩ ::
⟨(some 59), .fa 65 (.tmp 58), none⟩ ::
⟨(some 60), .load false 1 (.tmp 59), none⟩ ::
⟨(some 61), .bin .add (.tmp 60) (.const (.int .i64 1)), none⟩ ::
⟨(some 62), .nilc (.tmp 57), none⟩ ::
⟨(some 63), .fa 65 (.tmp 62), none⟩ ::
⟨none, .store 1 (.tmp 63) (.tmp 61), none⟩ ::
[]))
(.seq
(.plain (
⟨(some 8), .mv (.const (.int .i64 0)), none⟩ ::
[]))
.ret)))))
theorem prep10 : prepFunc Try.prog false 10 = some F10 := by kernel_rfl

-- (*indenture/light.Follower).Opening
def F11 : AFunc where
  ntmps := 7
  nparams := 1
  results := [(2, (some (true, 65)))]
  code :=
(.seq
(.plain (
⟨(some 2), .alloc 26 ([(.v (.int .i64 0))] ++ List.replicate 64 (.v (.int .u8 0))), none⟩ ::
[]))
(.seq
(.plain (
⟨(some 3), .mv (.tmp 0), none⟩ ::
⟨(some 4), .nilc (.tmp 3), none⟩ ::
⟨(some 5), .fa 0 (.tmp 4), none⟩ ::
⟨(some 6), .load true 65 (.tmp 5), none⟩ ::
⟨none, .store 65 (.tmp 2) (.tmp 6), none⟩ ::
[]))
.ret))
theorem prep11 : prepFunc Try.prog false 11 = some F11 := by kernel_rfl

-- indenture/history.InPath
def F12 : AFunc where
  ntmps := 32
  nparams := 5
  results := [(10, none)]
  code :=
(.seq
(.plain (
⟨(some 5), .box 24 (.tmp 0), none⟩ ::
⟨(some 8), .box 24 (.tmp 3), none⟩ ::
⟨(some 10), .mv (.const (.bool false)), none⟩ ::
[]))
(.seq
(.plain (
⟨(some 14), .mv (.tmp 1), none⟩ ::
⟨(some 15), .mv (.tmp 2), none⟩ ::
⟨(some 16), .load true 32 (.tmp 8), none⟩ ::
⟨(some 17), .mv (.tmp 4), none⟩ ::
⟨(some 18), .callF 31 [(.tmp 14), (.tmp 15), (.tmp 16), (.tmp 17)], none⟩ ::
⟨(some 13), .mv (.tmp 18), none⟩ ::
⟨(some 19), .ext (.tmp 13) 0, none⟩ ::
⟨(some 20), .ext (.tmp 13) 1, none⟩ ::
⟨(some 12), .alloc 24 (List.replicate 32 (.v (.int .u8 0))), none⟩ ::
⟨(some 11), .mv (.tmp 19), none⟩ ::
⟨none, .store 32 (.tmp 12) (.tmp 20), none⟩ ::
[]))
(.seq
(.plain (
⟨(some 21), .mv (.tmp 11), none⟩ ::
⟨(some 22), .eqp true (.tmp 21) (.const (.pointer none)), none⟩ ::
⟨(some 23), .mv (.tmp 22), none⟩ ::
⟨(some 24), .mv (.tmp 11), (some (23, true))⟩ ::
⟨(some 25), .callF 32 [(.tmp 24)], (some (23, true))⟩ ::
⟨(some 26), .pick (.tmp 23) (.tmp 25) (.const (.bool false)), none⟩ ::
⟨(some 27), .mv (.tmp 26), none⟩ ::
⟨(some 28), .load true 32 (.tmp 12), (some (27, true))⟩ ::
⟨(some 29), .load true 32 (.tmp 5), (some (27, true))⟩ ::
⟨(some 30), .eqv false [(32, .int .u8)] (.tmp 28) (.tmp 29), (some (27, true))⟩ ::
⟨(some 31), .pick (.tmp 27) (.tmp 30) (.const (.bool false)), none⟩ ::
⟨(some 10), .mv (.tmp 31), none⟩ ::
[]))
.ret)))
theorem prep12 : prepFunc Try.prog false 12 = some F12 := by kernel_rfl

-- (*indenture/light.Follower).Steps
def F13 : AFunc where
  ntmps := 7
  nparams := 1
  results := [(2, none)]
  code :=
(.seq
(.plain (
⟨(some 2), .mv (.const (.int .i64 0)), none⟩ ::
[]))
(.seq
(.plain (
⟨(some 3), .mv (.tmp 0), none⟩ ::
⟨(some 4), .nilc (.tmp 3), none⟩ ::
⟨(some 5), .fa 65 (.tmp 4), none⟩ ::
⟨(some 6), .load false 1 (.tmp 5), none⟩ ::
⟨(some 2), .mv (.tmp 6), none⟩ ::
[]))
.ret))
theorem prep13 : prepFunc Try.prog false 13 = some F13 := by kernel_rfl

-- indenture/history.Path
def F14 : AFunc where
  ntmps := 17
  nparams := 2
  results := [(4, none), (5, none)]
  code :=
(.seq
(.plain (
⟨(some 4), .mv (.const (.slice none 0 0)), none⟩ ::
⟨(some 5), .mv (.const (.int .i64 0)), none⟩ ::
[]))
(.seq
(.seq
(.plain (
⟨(some 6), .mv (.tmp 1), none⟩ ::
⟨(some 7), .bin .lss (.tmp 6) (.const (.int .i64 0)), none⟩ ::
⟨(some 8), .mv (.tmp 7), none⟩ ::
⟨(some 9), .mv (.tmp 1), (some (8, false))⟩ ::
⟨(some 10), .mv (.tmp 0), (some (8, false))⟩ ::
⟨(some 11), .len (.tmp 10), (some (8, false))⟩ ::
⟨(some 12), .bin .geq (.tmp 9) (.tmp 11), (some (8, false))⟩ ::
⟨(some 13), .pick (.tmp 8) (.const (.bool true)) (.tmp 12), none⟩ ::
[]))
(.cond (.tmp 13)
(.seq
(.plain (
⟨(some 4), .mv (.const (.slice none 0 0)), none⟩ ::
⟨(some 5), .mv (.const (.int .i64 1)), none⟩ ::
[]))
.ret)
.skip))
(.seq
(.plain (
⟨(some 14), .mv (.tmp 0), none⟩ ::
⟨(some 15), .mv (.tmp 1), none⟩ ::
⟨(some 16), .callF 33 [(.tmp 14), (.tmp 15)], none⟩ ::
⟨(some 4), .mv (.tmp 16), none⟩ ::
⟨(some 5), .mv (.const (.int .i64 0)), none⟩ ::
[]))
.ret)))
theorem prep14 : prepFunc Try.prog false 14 = some F14 := by kernel_rfl

-- indenture/history.PathPreimages
def F15 : AFunc where
  ntmps := 25
  nparams := 4
  results := [(8, none)]
  code :=
(.seq
(.plain (
⟨(some 6), .box 24 (.tmp 2), none⟩ ::
⟨(some 8), .mv (.const (.slice none 0 0)), none⟩ ::
[]))
(.seq
(.plain (
⟨(some 12), .mv (.tmp 0), none⟩ ::
⟨(some 13), .mv (.tmp 1), none⟩ ::
⟨(some 14), .load true 32 (.tmp 6), none⟩ ::
⟨(some 15), .mv (.tmp 3), none⟩ ::
⟨(some 16), .callF 31 [(.tmp 12), (.tmp 13), (.tmp 14), (.tmp 15)], none⟩ ::
⟨(some 11), .mv (.tmp 16), none⟩ ::
⟨(some 17), .ext (.tmp 11) 0, none⟩ ::
⟨(some 18), .ext (.tmp 11) 1, none⟩ ::
⟨(some 10), .alloc 24 (List.replicate 32 (.v (.int .u8 0))), none⟩ ::
⟨(some 9), .mv (.tmp 17), none⟩ ::
⟨none, .store 32 (.tmp 10) (.tmp 18), none⟩ ::
[]))
(.seq
(.seq
(.plain (
⟨(some 19), .mv (.tmp 9), none⟩ ::
⟨(some 20), .eqp false (.tmp 19) (.const (.pointer none)), none⟩ ::
[]))
(.cond (.tmp 20)
(.seq
(.plain (
⟨(some 8), .mv (.const (.slice none 0 0)), none⟩ ::
[]))
.ret)
.skip))
(.seq
(.plain (
⟨(some 21), .mv (.tmp 9), none⟩ ::
⟨(some 22), .nilc (.tmp 21), none⟩ ::
⟨(some 23), .fa 1 (.tmp 22), none⟩ ::
⟨(some 24), .load false 1 (.tmp 23), none⟩ ::
⟨(some 8), .mv (.tmp 24), none⟩ ::
[]))
.ret))))
theorem prep15 : prepFunc Try.prog false 15 = some F15 := by kernel_rfl

-- indenture/indenturelaw18.Clash
def F16 : AFunc where
  ntmps := 54
  nparams := 1
  results := [(2, none)]
  code :=
(.seq
(.plain (
⟨(some 2), .mv (.const (.bool false)), none⟩ ::
[]))
(.seq
(.plain (
⟨(some 3), .mv (.const (.slice none 0 0)), none⟩ ::
[]))
(.seq
(.seq
(.plain (
⟨(some 4), .mv (.const (.int .i64 0)), none⟩ ::
[]))
(.block 0
(.loop
(.seq
(.seq
(.plain (
⟨(some 7), .mv (.tmp 4), none⟩ ::
⟨(some 8), .mv (.tmp 0), none⟩ ::
⟨(some 9), .len (.tmp 8), none⟩ ::
⟨(some 10), .bin .lss (.tmp 7) (.tmp 9), none⟩ ::
[]))
(.cond (.tmp 10)
.skip
(.exit 0)))
(.seq
(.block 1
(.plain (
⟨(some 13), .mv (.tmp 3), none⟩ ::
⟨(some 14), .mv (.tmp 0), none⟩ ::
⟨(some 15), .mv (.tmp 4), none⟩ ::
⟨(some 16), .iaS 1 (.tmp 14) (.tmp 15), none⟩ ::
⟨(some 17), .load false 1 (.tmp 16), none⟩ ::
⟨(some 18), .callF 34 [(.tmp 17)], none⟩ ::
⟨(some 19), .bsl 32 [(.tmp 18)], none⟩ ::
⟨(some 20), .app 32 32 (.tmp 13) (.tmp 19), none⟩ ::
⟨(some 3), .mv (.tmp 20), none⟩ ::
[])))
(.plain (
⟨(some 11), .mv (.tmp 4), none⟩ ::
⟨(some 12), .bin .add (.tmp 11) (.const (.int .i64 1)), none⟩ ::
⟨(some 4), .mv (.tmp 12), none⟩ ::
[])))))))
(.seq
(.seq
(.plain (
⟨(some 5), .mv (.const (.int .i64 0)), none⟩ ::
[]))
(.block 2
(.loop
(.seq
(.seq
(.plain (
⟨(some 21), .mv (.tmp 5), none⟩ ::
⟨(some 22), .mv (.tmp 0), none⟩ ::
⟨(some 23), .len (.tmp 22), none⟩ ::
⟨(some 24), .bin .lss (.tmp 21) (.tmp 23), none⟩ ::
[]))
(.cond (.tmp 24)
.skip
(.exit 2)))
(.seq
(.block 3
(.seq
(.plain (
⟨(some 6), .mv (.const (.int .i64 0)), none⟩ ::
[]))
(.block 4
(.loop
(.seq
(.seq
(.plain (
⟨(some 27), .mv (.tmp 6), none⟩ ::
⟨(some 28), .mv (.tmp 5), none⟩ ::
⟨(some 29), .bin .lss (.tmp 27) (.tmp 28), none⟩ ::
[]))
(.cond (.tmp 29)
.skip
(.exit 4)))
(.seq
(.block 5
(.seq
(.draw (
⟨(some 32), .mv (.tmp 3), none⟩ ::
⟨(some 33), .mv (.tmp 5), none⟩ ::
⟨(some 34), .iaS 32 (.tmp 32) (.tmp 33), none⟩ ::
⟨(some 35), .load true 32 (.tmp 34), none⟩ ::
⟨(some 36), .mv (.tmp 3), none⟩ ::
⟨(some 37), .mv (.tmp 6), none⟩ ::
⟨(some 38), .iaS 32 (.tmp 36) (.tmp 37), none⟩ ::
⟨(some 39), .load true 32 (.tmp 38), none⟩ ::
⟨(some 40), .eqv false [(32, .int .u8)] (.tmp 35) (.tmp 39), none⟩ ::
⟨(some 41), .mv (.tmp 40), none⟩ ::
⟨(some 42), .mv (.tmp 0), (some (41, true))⟩ ::
⟨(some 43), .mv (.tmp 5), (some (41, true))⟩ ::
⟨(some 44), .iaS 1 (.tmp 42) (.tmp 43), (some (41, true))⟩ ::
⟨(some 45), .load false 1 (.tmp 44), (some (41, true))⟩ ::
⟨(some 46), .b2s (.tmp 45), (some (41, true))⟩ ::
⟨(some 47), .mv (.tmp 0), (some (41, true))⟩ ::
⟨(some 48), .mv (.tmp 6), (some (41, true))⟩ ::
⟨(some 49), .iaS 1 (.tmp 47) (.tmp 48), (some (41, true))⟩ ::
⟨(some 50), .load false 1 (.tmp 49), (some (41, true))⟩ ::
⟨(some 51), .b2s (.tmp 50), (some (41, true))⟩ ::
⟨(some 52), .bin .neq (.tmp 46) (.tmp 51), (some (41, true))⟩ ::
⟨(some 53), .pick (.tmp 41) (.tmp 52) (.const (.bool false)), none⟩ ::
[])
(⟨0, [], []⟩ :: ⟨1, [], []⟩ :: ⟨2, [], []⟩ :: ⟨3, [], []⟩ :: ⟨4, [], []⟩ :: ⟨5, [], []⟩ :: ⟨6, [], []⟩ :: ⟨7, [], []⟩ :: ⟨8, [], []⟩ :: ⟨9, [], []⟩ :: ⟨10, [], []⟩ :: ⟨11, [], []⟩ :: ⟨12, [], []⟩ :: ⟨13, [], []⟩ :: ⟨14, [], []⟩ :: ⟨15, [], []⟩ :: ⟨16, [], []⟩ :: ⟨17, [], []⟩ :: ⟨18, [], []⟩ :: ⟨19, [], []⟩ :: ⟨20, [], []⟩ :: ⟨21, [], []⟩ :: []))
(.cond (.tmp 53)
(.seq
(.plain (
⟨(some 2), .mv (.const (.bool true)), none⟩ ::
[]))
.ret)
.skip)))
(.plain (
⟨(some 30), .mv (.tmp 6), none⟩ ::
⟨(some 31), .bin .add (.tmp 30) (.const (.int .i64 1)), none⟩ ::
⟨(some 6), .mv (.tmp 31), none⟩ ::
[]))))))))
(.plain (
⟨(some 25), .mv (.tmp 5), none⟩ ::
⟨(some 26), .bin .add (.tmp 25) (.const (.int .i64 1)), none⟩ ::
⟨(some 5), .mv (.tmp 26), none⟩ ::
[])))))))
(.seq
(.plain (
⟨(some 2), .mv (.const (.bool false)), none⟩ ::
[]))
.ret)))))
theorem prep16 : prepFunc Try.prog false 16 = some F16 := by kernel_rfl

-- indenture/history.GrowthPreimages
def F17 : AFunc where
  ntmps := 33
  nparams := 4
  results := [(8, none)]
  code :=
(.seq
(.plain (
⟨(some 4), .box 24 (.tmp 0), none⟩ ::
⟨(some 8), .mv (.const (.slice none 0 0)), none⟩ ::
[]))
(.seq
(.seq
(.plain (
⟨(some 10), .mv (.tmp 1), none⟩ ::
⟨(some 11), .bin .lss (.tmp 10) (.const (.int .i64 1)), none⟩ ::
⟨(some 12), .mv (.tmp 11), none⟩ ::
⟨(some 13), .mv (.tmp 1), (some (12, false))⟩ ::
⟨(some 14), .mv (.tmp 2), (some (12, false))⟩ ::
⟨(some 15), .bin .gtr (.tmp 13) (.tmp 14), (some (12, false))⟩ ::
⟨(some 16), .pick (.tmp 12) (.const (.bool true)) (.tmp 15), none⟩ ::
⟨(some 17), .mv (.tmp 16), none⟩ ::
⟨(some 18), .mv (.tmp 2), (some (17, false))⟩ ::
⟨(some 19), .bin .gtr (.tmp 18) (.const (.int .i64 1099511627776)), (some (17, false))⟩ ::
⟨(some 20), .pick (.tmp 17) (.const (.bool true)) (.tmp 19), none⟩ ::
[]))
(.cond (.tmp 20)
(.seq
(.plain (
⟨(some 8), .mv (.const (.slice none 0 0)), none⟩ ::
[]))
.ret)
.skip))
(.seq
(.plain (
⟨(some 21), .mv (.tmp 3), none⟩ ::
⟨(some 22), .bld [(.sl [] .nil), (.sl [] .nil), (.v (.bool false))] [(0, 1, (.tmp 21))], none⟩ ::
⟨(some 23), .box 73 (.tmp 22), none⟩ ::
⟨(some 9), .mv (.tmp 23), none⟩ ::
[]))
(.seq
(.plain (
⟨(some 24), .mv (.tmp 9), none⟩ ::
⟨(some 25), .load true 32 (.tmp 4), none⟩ ::
⟨(some 26), .mv (.tmp 1), none⟩ ::
⟨(some 27), .mv (.tmp 2), none⟩ ::
⟨(some 28), .callF 35 [(.tmp 24), (.tmp 25), (.tmp 26), (.tmp 27), (.const (.bool true))], none⟩ ::
[]))
(.seq
(.plain (
⟨(some 29), .mv (.tmp 9), none⟩ ::
⟨(some 30), .nilc (.tmp 29), none⟩ ::
⟨(some 31), .fa 1 (.tmp 30), none⟩ ::
⟨(some 32), .load false 1 (.tmp 31), none⟩ ::
⟨(some 8), .mv (.tmp 32), none⟩ ::
[]))
.ret)))))
theorem prep17 : prepFunc Try.prog false 17 = some F17 := by kernel_rfl

-- indenture/history.Growth
def F18 : AFunc where
  ntmps := 21
  nparams := 2
  results := [(4, none), (5, none)]
  code :=
(.seq
(.plain (
⟨(some 4), .mv (.const (.slice none 0 0)), none⟩ ::
⟨(some 5), .mv (.const (.int .i64 0)), none⟩ ::
[]))
(.seq
(.block 0
(.seq
(.plain (
⟨(some 7), .mv (.tmp 1), none⟩ ::
⟨(some 8), .bin .lss (.tmp 7) (.const (.int .i64 0)), none⟩ ::
⟨(some 9), .mv (.tmp 8), none⟩ ::
⟨(some 10), .mv (.tmp 1), (some (9, false))⟩ ::
⟨(some 11), .mv (.tmp 0), (some (9, false))⟩ ::
⟨(some 12), .len (.tmp 11), (some (9, false))⟩ ::
⟨(some 13), .bin .gtr (.tmp 10) (.tmp 12), (some (9, false))⟩ ::
⟨(some 14), .pick (.tmp 9) (.const (.bool true)) (.tmp 13), none⟩ ::
⟨(some 6), .mv (.tmp 14), none⟩ ::
[]))
(.cond (.tmp 6)
(.seq
(.plain (
⟨(some 4), .mv (.const (.slice none 0 0)), none⟩ ::
⟨(some 5), .mv (.const (.int .i64 1)), none⟩ ::
[]))
.ret)
(.seq
(.plain (
⟨(some 16), .mv (.tmp 1), none⟩ ::
⟨(some 17), .bin .eql (.tmp 16) (.const (.int .i64 0)), none⟩ ::
⟨(some 15), .mv (.tmp 17), none⟩ ::
[]))
(.cond (.tmp 15)
(.seq
(.plain (
⟨(some 4), .mv (.const (.slice none 0 0)), none⟩ ::
⟨(some 5), .mv (.const (.int .i64 0)), none⟩ ::
[]))
.ret)
.skip)))))
(.seq
(.plain (
⟨(some 18), .mv (.tmp 0), none⟩ ::
⟨(some 19), .mv (.tmp 1), none⟩ ::
⟨(some 20), .callF 36 [(.tmp 18), (.tmp 19), (.const (.bool true))], none⟩ ::
⟨(some 4), .mv (.tmp 20), none⟩ ::
⟨(some 5), .mv (.const (.int .i64 0)), none⟩ ::
[]))
.ret)))
theorem prep18 : prepFunc Try.prog false 18 = some F18 := by kernel_rfl

-- (*indenture/indentureref34.Follower).Next
def F19 : AFunc where
  ntmps := 84
  nparams := 4
  results := [(8, none)]
  code :=
(.seq
(.plain (
⟨(some 5), .box 24 (.tmp 1), none⟩ ::
⟨(some 6), .box 26 (.tmp 2), none⟩ ::
⟨(some 8), .mv (.const (.int .i64 0)), none⟩ ::
[]))
(.seq
(.seq
(.draw (
⟨(some 9), .load true 65 (.tmp 6), none⟩ ::
⟨(some 10), .callF 37 [(.tmp 9)], none⟩ ::
⟨(some 11), .load true 32 (.tmp 5), none⟩ ::
⟨(some 12), .eqv true [(32, .int .u8)] (.tmp 10) (.tmp 11), none⟩ ::
[])
(⟨0, [], []⟩ :: ⟨2, [], []⟩ :: ⟨1, [], [2]⟩ :: ⟨3, [], []⟩ :: []))
(.cond (.tmp 12)
(.seq
(.plain (
⟨(some 8), .mv (.const (.int .i64 41)), none⟩ ::
[]))
.ret)
.skip))
(.seq
(.seq
(.draw (
⟨(some 13), .load true 32 (.tmp 5), none⟩ ::
⟨(some 14), .mv (.tmp 0), none⟩ ::
⟨(some 15), .nilc (.tmp 14), none⟩ ::
⟨(some 16), .fa 0 (.tmp 15), none⟩ ::
⟨(some 17), .load true 65 (.tmp 16), none⟩ ::
⟨(some 18), .callF 37 [(.tmp 17)], none⟩ ::
⟨(some 19), .eqv false [(32, .int .u8)] (.tmp 13) (.tmp 18), none⟩ ::
[])
(⟨0, [], []⟩ :: ⟨1, [], []⟩ :: ⟨2, [], []⟩ :: ⟨3, [], []⟩ :: ⟨4, [], []⟩ :: ⟨5, [], [0]⟩ :: ⟨6, [], []⟩ :: []))
(.cond (.tmp 19)
(.seq
(.plain (
⟨(some 8), .mv (.const (.int .i64 0)), none⟩ ::
[]))
.ret)
.skip))
(.seq
(.seq
(.plain (
⟨(some 20), .fa 0 (.tmp 6), none⟩ ::
⟨(some 21), .load false 1 (.tmp 20), none⟩ ::
⟨(some 22), .bin .lss (.tmp 21) (.const (.int .i64 0)), none⟩ ::
⟨(some 23), .mv (.tmp 22), none⟩ ::
⟨(some 24), .fa 0 (.tmp 6), (some (23, false))⟩ ::
⟨(some 25), .load false 1 (.tmp 24), (some (23, false))⟩ ::
⟨(some 26), .bin .gtr (.tmp 25) (.const (.int .i64 1099511627776)), (some (23, false))⟩ ::
⟨(some 27), .pick (.tmp 23) (.const (.bool true)) (.tmp 26), none⟩ ::
[]))
(.cond (.tmp 27)
(.seq
(.plain (
⟨(some 8), .mv (.const (.int .i64 42)), none⟩ ::
[]))
.ret)
.skip))
(.seq
(.seq
(.draw (
⟨(some 28), .fa 0 (.tmp 6), none⟩ ::
⟨(some 29), .load false 1 (.tmp 28), none⟩ ::
⟨(some 30), .mv (.tmp 0), none⟩ ::
⟨(some 31), .nilc (.tmp 30), none⟩ ::
⟨(some 32), .fa 0 (.tmp 31), none⟩ ::
⟨(some 33), .fa 0 (.tmp 32), none⟩ ::
⟨(some 34), .load false 1 (.tmp 33), none⟩ ::
⟨(some 35), .bin .leq (.tmp 29) (.tmp 34), none⟩ ::
[])
(⟨0, [], []⟩ :: ⟨1, [], []⟩ :: ⟨2, [], []⟩ :: ⟨3, [], []⟩ :: ⟨4, [], []⟩ :: ⟨5, [], []⟩ :: ⟨6, [], []⟩ :: ⟨7, [], []⟩ :: []))
(.cond (.tmp 35)
(.seq
(.seq
(.plain (
⟨(some 36), .mv (.tmp 0), none⟩ ::
⟨(some 37), .nilc (.tmp 36), none⟩ ::
⟨(some 38), .fa 66 (.tmp 37), none⟩ ::
⟨(some 39), .load false 1 (.tmp 38), none⟩ ::
⟨(some 40), .un .not (.tmp 39), none⟩ ::
[]))
(.cond (.tmp 40)
(.seq
(.plain (
⟨(some 41), .mv (.tmp 0), none⟩ ::
⟨(some 42), .nilc (.tmp 41), none⟩ ::
⟨(some 43), .fa 66 (.tmp 42), none⟩ ::
⟨none, .store 1 (.tmp 43) (.const (.bool true)), none⟩ ::
[]))
(.seq
(.plain (
⟨(some 44), .mv (.tmp 0), none⟩ ::
⟨(some 45), .load true 65 (.tmp 6), none⟩ ::
⟨(some 46), .nilc (.tmp 44), none⟩ ::
⟨(some 47), .fa 67 (.tmp 46), none⟩ ::
⟨none, .store 65 (.tmp 47) (.tmp 45), none⟩ ::
[]))
(.plain (
⟨(some 48), .mv (.tmp 0), none⟩ ::
⟨(some 49), .mv (.tmp 0), none⟩ ::
⟨(some 50), .nilc (.tmp 49), none⟩ ::
⟨(some 51), .fa 0 (.tmp 50), none⟩ ::
⟨(some 52), .load true 65 (.tmp 51), none⟩ ::
⟨(some 53), .nilc (.tmp 48), none⟩ ::
⟨(some 54), .fa 132 (.tmp 53), none⟩ ::
⟨none, .store 65 (.tmp 54) (.tmp 52), none⟩ ::
[]))))
.skip))
(.seq
(.plain (
⟨(some 8), .mv (.const (.int .i64 42)), none⟩ ::
[]))
.ret))
.skip))
(.seq
(.seq
(.draw (
⟨(some 55), .mv (.tmp 0), none⟩ ::
⟨(some 56), .nilc (.tmp 55), none⟩ ::
⟨(some 57), .fa 0 (.tmp 56), none⟩ ::
⟨(some 58), .fa 1 (.tmp 57), none⟩ ::
⟨(some 59), .load true 32 (.tmp 58), none⟩ ::
⟨(some 60), .mv (.tmp 0), none⟩ ::
⟨(some 61), .nilc (.tmp 60), none⟩ ::
⟨(some 62), .fa 0 (.tmp 61), none⟩ ::
⟨(some 63), .fa 0 (.tmp 62), none⟩ ::
⟨(some 64), .load false 1 (.tmp 63), none⟩ ::
⟨(some 65), .fa 1 (.tmp 6), none⟩ ::
⟨(some 66), .load true 32 (.tmp 65), none⟩ ::
⟨(some 67), .fa 0 (.tmp 6), none⟩ ::
⟨(some 68), .load false 1 (.tmp 67), none⟩ ::
⟨(some 69), .mv (.tmp 3), none⟩ ::
⟨(some 70), .callF 38 [(.tmp 59), (.tmp 64), (.tmp 66), (.tmp 68), (.tmp 69)], none⟩ ::
⟨(some 71), .un .not (.tmp 70), none⟩ ::
[])
(⟨0, [], []⟩ :: ⟨1, [], []⟩ :: ⟨2, [], []⟩ :: ⟨3, [], []⟩ :: ⟨4, [], []⟩ :: ⟨5, [], []⟩ :: ⟨6, [], []⟩ :: ⟨7, [], []⟩ :: ⟨8, [], []⟩ :: ⟨9, [], []⟩ :: ⟨10, [], []⟩ :: ⟨11, [], []⟩ :: ⟨12, [], []⟩ :: ⟨13, [], []⟩ :: ⟨14, [], []⟩ :: ⟨15, [], []⟩ :: ⟨16, [], []⟩ :: []))
(.cond (.tmp 71)
(.seq
(.plain (
⟨(some 8), .mv (.const (.int .i64 42)), none⟩ ::
[]))
.ret)
.skip))
(.seq
(.plain (
⟨(some 72), .mv (.tmp 0), none⟩ ::
⟨(some 73), .load true 65 (.tmp 6), none⟩ ::
⟨(some 74), .nilc (.tmp 72), none⟩ ::
⟨(some 75), .fa 0 (.tmp 74), none⟩ ::
⟨none, .store 65 (.tmp 75) (.tmp 73), none⟩ ::
[]))
(.seq
(.plain (
⟨(some 76), .mv (.tmp 0), none⟩ ::
⟨(some 77), .mv (.tmp 0), none⟩ ::
⟨(some 78), .nilc (.tmp 77), none⟩ ::
⟨(some 79), .fa 65 (.tmp 78), none⟩ ::
⟨(some 80), .load false 1 (.tmp 79), none⟩ ::
⟨(some 81), .bin .add (.tmp 80) (.const (.int .i64 1)), none⟩ ::
⟨(some 82), .nilc (.tmp 76), none⟩ ::
⟨(some 83), .fa 65 (.tmp 82), none⟩ ::
⟨none, .store 1 (.tmp 83) (.tmp 81), none⟩ ::
[]))
(.seq
(.plain (
⟨(some 8), .mv (.const (.int .i64 0)), none⟩ ::
[]))
.ret)))))))))
theorem prep19 : prepFunc Try.prog true 19 = some F19 := by kernel_rfl

-- indenture/indenturelaw34.same
def F20 : AFunc where
  ntmps := 73
  nparams := 2
  results := [(4, none)]
  code :=
(.seq
(.plain (
⟨(some 4), .mv (.const (.bool false)), none⟩ ::
[]))
(.seq
(.plain (
⟨(some 9), .mv (.tmp 0), none⟩ ::
⟨(some 10), .callF 24 [(.tmp 9)], none⟩ ::
⟨(some 8), .mv (.tmp 10), none⟩ ::
⟨(some 11), .ext (.tmp 8) 0, none⟩ ::
⟨(some 12), .ext (.tmp 8) 1, none⟩ ::
⟨(some 13), .ext (.tmp 8) 2, none⟩ ::
⟨(some 5), .alloc 26 ([(.v (.int .i64 0))] ++ List.replicate 64 (.v (.int .u8 0))), none⟩ ::
⟨(some 6), .alloc 26 ([(.v (.int .i64 0))] ++ List.replicate 64 (.v (.int .u8 0))), none⟩ ::
⟨none, .store 65 (.tmp 5) (.tmp 11), none⟩ ::
⟨none, .store 65 (.tmp 6) (.tmp 12), none⟩ ::
⟨(some 7), .mv (.tmp 13), none⟩ ::
[]))
(.seq
(.draw (
⟨(some 14), .mv (.tmp 0), none⟩ ::
⟨(some 15), .callF 11 [(.tmp 14)], none⟩ ::
⟨(some 16), .mv (.tmp 1), none⟩ ::
⟨(some 17), .nilc (.tmp 16), none⟩ ::
⟨(some 18), .fa 0 (.tmp 17), none⟩ ::
⟨(some 19), .load true 65 (.tmp 18), none⟩ ::
⟨(some 20), .eqv false [(1, .int .i64), (64, .int .u8)] (.tmp 15) (.tmp 19), none⟩ ::
⟨(some 21), .mv (.tmp 20), none⟩ ::
⟨(some 22), .mv (.tmp 0), (some (21, true))⟩ ::
⟨(some 23), .callF 28 [(.tmp 22)], (some (21, true))⟩ ::
⟨(some 24), .mv (.tmp 1), (some (21, true))⟩ ::
⟨(some 25), .nilc (.tmp 24), (some (21, true))⟩ ::
⟨(some 26), .fa 0 (.tmp 25), (some (21, true))⟩ ::
⟨(some 27), .load true 65 (.tmp 26), (some (21, true))⟩ ::
⟨(some 28), .callF 37 [(.tmp 27)], (some (21, true))⟩ ::
⟨(some 29), .eqv false [(32, .int .u8)] (.tmp 23) (.tmp 28), (some (21, true))⟩ ::
⟨(some 30), .pick (.tmp 21) (.tmp 29) (.const (.bool false)), none⟩ ::
⟨(some 31), .mv (.tmp 30), none⟩ ::
⟨(some 32), .mv (.tmp 0), (some (31, true))⟩ ::
⟨(some 33), .callF 13 [(.tmp 32)], (some (31, true))⟩ ::
⟨(some 34), .mv (.tmp 1), (some (31, true))⟩ ::
⟨(some 35), .nilc (.tmp 34), (some (31, true))⟩ ::
⟨(some 36), .fa 65 (.tmp 35), (some (31, true))⟩ ::
⟨(some 37), .load false 1 (.tmp 36), (some (31, true))⟩ ::
⟨(some 38), .bin .eql (.tmp 33) (.tmp 37), (some (31, true))⟩ ::
⟨(some 39), .pick (.tmp 31) (.tmp 38) (.const (.bool false)), none⟩ ::
⟨(some 40), .mv (.tmp 39), none⟩ ::
⟨(some 41), .mv (.tmp 7), (some (40, true))⟩ ::
⟨(some 42), .mv (.tmp 1), (some (40, true))⟩ ::
⟨(some 43), .nilc (.tmp 42), (some (40, true))⟩ ::
⟨(some 44), .fa 66 (.tmp 43), (some (40, true))⟩ ::
⟨(some 45), .load false 1 (.tmp 44), (some (40, true))⟩ ::
⟨(some 46), .eqb false (.tmp 41) (.tmp 45), (some (40, true))⟩ ::
⟨(some 47), .pick (.tmp 40) (.tmp 46) (.const (.bool false)), none⟩ ::
⟨(some 48), .mv (.tmp 47), none⟩ ::
⟨(some 49), .load true 65 (.tmp 5), (some (48, true))⟩ ::
⟨(some 50), .mv (.tmp 1), (some (48, true))⟩ ::
⟨(some 51), .nilc (.tmp 50), (some (48, true))⟩ ::
⟨(some 52), .fa 67 (.tmp 51), (some (48, true))⟩ ::
⟨(some 53), .load true 65 (.tmp 52), (some (48, true))⟩ ::
⟨(some 54), .eqv false [(1, .int .i64), (64, .int .u8)] (.tmp 49) (.tmp 53), (some (48, true))⟩ ::
⟨(some 55), .pick (.tmp 48) (.tmp 54) (.const (.bool false)), none⟩ ::
⟨(some 56), .mv (.tmp 55), none⟩ ::
⟨(some 57), .load true 65 (.tmp 6), (some (56, true))⟩ ::
⟨(some 58), .mv (.tmp 1), (some (56, true))⟩ ::
⟨(some 59), .nilc (.tmp 58), (some (56, true))⟩ ::
⟨(some 60), .fa 132 (.tmp 59), (some (56, true))⟩ ::
⟨(some 61), .load true 65 (.tmp 60), (some (56, true))⟩ ::
⟨(some 62), .eqv false [(1, .int .i64), (64, .int .u8)] (.tmp 57) (.tmp 61), (some (56, true))⟩ ::
⟨(some 63), .pick (.tmp 56) (.tmp 62) (.const (.bool false)), none⟩ ::
⟨(some 64), .mv (.tmp 63), none⟩ ::
⟨(some 65), .mv (.tmp 0), (some (64, true))⟩ ::
⟨(some 66), .callF 22 [(.tmp 65)], (some (64, true))⟩ ::
⟨(some 67), .b2s (.tmp 66), (some (64, true))⟩ ::
⟨(some 68), .mv (.tmp 1), (some (64, true))⟩ ::
⟨(some 69), .callF 23 [(.tmp 68)], (some (64, true))⟩ ::
⟨(some 70), .b2s (.tmp 69), (some (64, true))⟩ ::
⟨(some 71), .bin .eql (.tmp 67) (.tmp 70), (some (64, true))⟩ ::
⟨(some 72), .pick (.tmp 64) (.tmp 71) (.const (.bool false)), none⟩ ::
⟨(some 4), .mv (.tmp 72), none⟩ ::
[])
(⟨0, [], []⟩ :: ⟨2, [], []⟩ :: ⟨3, [], []⟩ :: ⟨4, [], []⟩ :: ⟨5, [], []⟩ :: ⟨1, [], [5]⟩ :: ⟨6, [], []⟩ :: ⟨7, [], []⟩ :: ⟨8, [], []⟩ :: ⟨10, [], []⟩ :: ⟨11, [], []⟩ :: ⟨12, [], []⟩ :: ⟨13, [], []⟩ :: ⟨9, [], [13]⟩ :: ⟨14, [], []⟩ :: ⟨15, [], []⟩ :: ⟨16, [], []⟩ :: ⟨17, [], []⟩ :: ⟨18, [], []⟩ :: ⟨20, [], []⟩ :: ⟨21, [], []⟩ :: ⟨22, [], []⟩ :: ⟨23, [], []⟩ :: ⟨19, [], [23]⟩ :: ⟨24, [], []⟩ :: ⟨25, [], []⟩ :: ⟨26, [], []⟩ :: ⟨27, [], []⟩ :: ⟨28, [], []⟩ :: ⟨29, [], []⟩ :: ⟨30, [], []⟩ :: ⟨31, [], []⟩ :: ⟨32, [], []⟩ :: ⟨33, [], []⟩ :: ⟨34, [], []⟩ :: ⟨35, [], []⟩ :: ⟨36, [], []⟩ :: ⟨37, [], []⟩ :: ⟨38, [], []⟩ :: ⟨39, [], []⟩ :: ⟨40, [], []⟩ :: ⟨41, [], []⟩ :: ⟨42, [], []⟩ :: ⟨43, [], []⟩ :: ⟨44, [], []⟩ :: ⟨45, [], []⟩ :: ⟨46, [], []⟩ :: ⟨47, [], []⟩ :: ⟨48, [], []⟩ :: ⟨49, [], []⟩ :: ⟨50, [], []⟩ :: ⟨51, [], []⟩ :: ⟨54, [], []⟩ :: ⟨52, [], []⟩ :: ⟨53, [], []⟩ :: ⟨55, [], []⟩ :: ⟨56, [], []⟩ :: ⟨57, [], []⟩ :: ⟨58, [], []⟩ :: ⟨59, [], []⟩ :: []))
.ret)))
theorem prep20 : prepFunc Try.prog false 20 = some F20 := by kernel_rfl

-- indenture/light.Load
def F21 : AFunc where
  ntmps := 134
  nparams := 1
  results := [(2, none), (3, none)]
  code :=
(.seq
(.plain (
⟨(some 2), .mv (.const (.pointer none)), none⟩ ::
⟨(some 3), .mv (.const (.int .i64 0)), none⟩ ::
[]))
(.seq
(.plain (
⟨(some 7), .mv (.tmp 0), none⟩ ::
⟨(some 8), .callF 39 [(.tmp 7)], none⟩ ::
⟨(some 4), .mv (.tmp 8), none⟩ ::
[]))
(.seq
(.plain (
⟨(some 9), .mv (.tmp 4), none⟩ ::
⟨(some 10), .callF 40 [(.tmp 9)], none⟩ ::
⟨(some 11), .bld ([(.v (.int .i64 0))] ++ List.replicate 64 (.v (.int .u8 0)) ++ [(.v (.int .i64 0))] ++ [(.v (.pointer none))]) [(0, 65, (.tmp 10))], none⟩ ::
⟨(some 12), .box 64 (.tmp 11), none⟩ ::
⟨(some 5), .mv (.tmp 12), none⟩ ::
[]))
(.seq
(.plain (
⟨(some 13), .mv (.tmp 5), none⟩ ::
⟨(some 14), .mv (.tmp 4), none⟩ ::
⟨(some 15), .callF 41 [(.tmp 14)], none⟩ ::
⟨(some 16), .nilc (.tmp 13), none⟩ ::
⟨(some 17), .fa 65 (.tmp 16), none⟩ ::
⟨none, .store 1 (.tmp 17) (.tmp 15), none⟩ ::
[]))
(.seq
(.plain (
⟨(some 18), .mv (.tmp 5), none⟩ ::
⟨(some 19), .nilc (.tmp 18), none⟩ ::
⟨(some 20), .fa 0 (.tmp 19), none⟩ ::
⟨(some 21), .load true 65 (.tmp 20), none⟩ ::
⟨(some 22), .callF 27 [(.tmp 21)], none⟩ ::
⟨(some 23), .mv (.tmp 22), none⟩ ::
⟨(some 24), .mv (.tmp 5), (some (23, true))⟩ ::
⟨(some 25), .nilc (.tmp 24), (some (23, true))⟩ ::
⟨(some 26), .fa 65 (.tmp 25), (some (23, true))⟩ ::
⟨(some 27), .load false 1 (.tmp 26), (some (23, true))⟩ ::
⟨(some 28), .bin .geq (.tmp 27) (.const (.int .i64 0)), (some (23, true))⟩ ::
⟨(some 29), .pick (.tmp 23) (.tmp 28) (.const (.bool false)), none⟩ ::
⟨(some 30), .mv (.tmp 29), none⟩ ::
⟨(some 31), .mv (.tmp 5), (some (30, true))⟩ ::
⟨(some 32), .nilc (.tmp 31), (some (30, true))⟩ ::
⟨(some 33), .fa 65 (.tmp 32), (some (30, true))⟩ ::
⟨(some 34), .load false 1 (.tmp 33), (some (30, true))⟩ ::
⟨(some 35), .bin .leq (.tmp 34) (.const (.int .i64 1099511627776)), (some (30, true))⟩ ::
⟨(some 36), .pick (.tmp 30) (.tmp 35) (.const (.bool false)), none⟩ ::
⟨(some 6), .mv (.tmp 36), none⟩ ::
[]))
(.seq
(.seq
(.plain (
⟨(some 37), .mv (.tmp 4), none⟩ ::
⟨(some 38), .callF 42 [(.tmp 37)], none⟩ ::
[]))
(.cond (.tmp 38)
(.seq
(.plain (
⟨(some 39), .mv (.tmp 5), none⟩ ::
⟨(some 40), .bld ([(.v (.int .i64 0))] ++ List.replicate 64 (.v (.int .u8 0)) ++ [(.v (.int .i64 0))] ++ List.replicate 64 (.v (.int .u8 0))) [], none⟩ ::
⟨(some 41), .box 82 (.tmp 40), none⟩ ::
⟨(some 42), .nilc (.tmp 39), none⟩ ::
⟨(some 43), .fa 66 (.tmp 42), none⟩ ::
⟨none, .store 1 (.tmp 43) (.tmp 41), none⟩ ::
[]))
(.seq
(.draw (
⟨(some 44), .mv (.tmp 5), none⟩ ::
⟨(some 45), .nilc (.tmp 44), none⟩ ::
⟨(some 46), .fa 66 (.tmp 45), none⟩ ::
⟨(some 47), .load false 1 (.tmp 46), none⟩ ::
⟨(some 48), .mv (.tmp 4), none⟩ ::
⟨(some 49), .callF 40 [(.tmp 48)], none⟩ ::
⟨(some 50), .nilc (.tmp 47), none⟩ ::
⟨(some 51), .iaA 65 2 (.tmp 50) (.const (.int .i64 0)), none⟩ ::
⟨none, .store 65 (.tmp 51) (.tmp 49), none⟩ ::
[])
(⟨0, [], []⟩ :: ⟨1, [], []⟩ :: ⟨2, [], []⟩ :: ⟨3, [], []⟩ :: ⟨4, [], []⟩ :: ⟨6, [], []⟩ :: ⟨5, [], [3]⟩ :: ⟨7, [], []⟩ :: ⟨8, [], []⟩ :: []))
(.seq
(.draw (
⟨(some 52), .mv (.tmp 5), none⟩ ::
⟨(some 53), .nilc (.tmp 52), none⟩ ::
⟨(some 54), .fa 66 (.tmp 53), none⟩ ::
⟨(some 55), .load false 1 (.tmp 54), none⟩ ::
⟨(some 56), .mv (.tmp 4), none⟩ ::
⟨(some 57), .callF 40 [(.tmp 56)], none⟩ ::
⟨(some 58), .nilc (.tmp 55), none⟩ ::
⟨(some 59), .iaA 65 2 (.tmp 58) (.const (.int .i64 1)), none⟩ ::
⟨none, .store 65 (.tmp 59) (.tmp 57), none⟩ ::
[])
(⟨0, [], []⟩ :: ⟨1, [], []⟩ :: ⟨2, [], []⟩ :: ⟨3, [], []⟩ :: ⟨4, [], []⟩ :: ⟨6, [], []⟩ :: ⟨5, [], [3]⟩ :: ⟨7, [], []⟩ :: ⟨8, [], []⟩ :: []))
(.draw (
⟨(some 60), .mv (.tmp 6), none⟩ ::
⟨(some 61), .mv (.tmp 60), none⟩ ::
⟨(some 62), .mv (.tmp 5), (some (61, true))⟩ ::
⟨(some 63), .nilc (.tmp 62), (some (61, true))⟩ ::
⟨(some 64), .fa 66 (.tmp 63), (some (61, true))⟩ ::
⟨(some 65), .load false 1 (.tmp 64), (some (61, true))⟩ ::
⟨(some 66), .nilc (.tmp 65), (some (61, true))⟩ ::
⟨(some 67), .iaA 65 2 (.tmp 66) (.const (.int .i64 0)), (some (61, true))⟩ ::
⟨(some 68), .load true 65 (.tmp 67), (some (61, true))⟩ ::
⟨(some 69), .callF 27 [(.tmp 68)], (some (61, true))⟩ ::
⟨(some 70), .pick (.tmp 61) (.tmp 69) (.const (.bool false)), none⟩ ::
⟨(some 71), .mv (.tmp 70), none⟩ ::
⟨(some 72), .mv (.tmp 5), (some (71, true))⟩ ::
⟨(some 73), .nilc (.tmp 72), (some (71, true))⟩ ::
⟨(some 74), .fa 66 (.tmp 73), (some (71, true))⟩ ::
⟨(some 75), .load false 1 (.tmp 74), (some (71, true))⟩ ::
⟨(some 76), .nilc (.tmp 75), (some (71, true))⟩ ::
⟨(some 77), .iaA 65 2 (.tmp 76) (.const (.int .i64 1)), (some (71, true))⟩ ::
⟨(some 78), .load true 65 (.tmp 77), (some (71, true))⟩ ::
⟨(some 79), .callF 27 [(.tmp 78)], (some (71, true))⟩ ::
⟨(some 80), .pick (.tmp 71) (.tmp 79) (.const (.bool false)), none⟩ ::
⟨(some 81), .mv (.tmp 80), none⟩ ::
⟨(some 82), .mv (.tmp 5), (some (81, true))⟩ ::
⟨(some 83), .nilc (.tmp 82), (some (81, true))⟩ ::
⟨(some 84), .fa 66 (.tmp 83), (some (81, true))⟩ ::
⟨(some 85), .load false 1 (.tmp 84), (some (81, true))⟩ ::
⟨(some 86), .nilc (.tmp 85), (some (81, true))⟩ ::
⟨(some 87), .iaA 65 2 (.tmp 86) (.const (.int .i64 0)), (some (81, true))⟩ ::
⟨(some 88), .fa 0 (.tmp 87), (some (81, true))⟩ ::
⟨(some 89), .load false 1 (.tmp 88), (some (81, true))⟩ ::
⟨(some 90), .mv (.tmp 5), (some (81, true))⟩ ::
⟨(some 91), .nilc (.tmp 90), (some (81, true))⟩ ::
⟨(some 92), .fa 66 (.tmp 91), (some (81, true))⟩ ::
⟨(some 93), .load false 1 (.tmp 92), (some (81, true))⟩ ::
⟨(some 94), .nilc (.tmp 93), (some (81, true))⟩ ::
⟨(some 95), .iaA 65 2 (.tmp 94) (.const (.int .i64 1)), (some (81, true))⟩ ::
⟨(some 96), .fa 0 (.tmp 95), (some (81, true))⟩ ::
⟨(some 97), .load false 1 (.tmp 96), (some (81, true))⟩ ::
⟨(some 98), .bin .leq (.tmp 89) (.tmp 97), (some (81, true))⟩ ::
⟨(some 99), .pick (.tmp 81) (.tmp 98) (.const (.bool false)), none⟩ ::
⟨(some 100), .mv (.tmp 99), none⟩ ::
⟨(some 101), .mv (.tmp 5), (some (100, true))⟩ ::
⟨(some 102), .nilc (.tmp 101), (some (100, true))⟩ ::
⟨(some 103), .fa 66 (.tmp 102), (some (100, true))⟩ ::
⟨(some 104), .load false 1 (.tmp 103), (some (100, true))⟩ ::
⟨(some 105), .nilc (.tmp 104), (some (100, true))⟩ ::
⟨(some 106), .iaA 65 2 (.tmp 105) (.const (.int .i64 0)), (some (100, true))⟩ ::
⟨(some 107), .load true 65 (.tmp 106), (some (100, true))⟩ ::
⟨(some 108), .callF 26 [(.tmp 107)], (some (100, true))⟩ ::
⟨(some 109), .mv (.tmp 5), (some (100, true))⟩ ::
⟨(some 110), .nilc (.tmp 109), (some (100, true))⟩ ::
⟨(some 111), .fa 66 (.tmp 110), (some (100, true))⟩ ::
⟨(some 112), .load false 1 (.tmp 111), (some (100, true))⟩ ::
⟨(some 113), .nilc (.tmp 112), (some (100, true))⟩ ::
⟨(some 114), .iaA 65 2 (.tmp 113) (.const (.int .i64 1)), (some (100, true))⟩ ::
⟨(some 115), .load true 65 (.tmp 114), (some (100, true))⟩ ::
⟨(some 116), .callF 26 [(.tmp 115)], (some (100, true))⟩ ::
⟨(some 117), .eqv true [(32, .int .u8)] (.tmp 108) (.tmp 116), (some (100, true))⟩ ::
⟨(some 118), .pick (.tmp 100) (.tmp 117) (.const (.bool false)), none⟩ ::
⟨(some 6), .mv (.tmp 118), none⟩ ::
[])
(⟨0, [], []⟩ :: ⟨1, [], []⟩ :: ⟨2, [], []⟩ :: ⟨3, [], []⟩ :: ⟨4, [], []⟩ :: ⟨5, [], []⟩ :: ⟨6, [], []⟩ :: ⟨7, [], []⟩ :: ⟨8, [], []⟩ :: ⟨9, [], []⟩ :: ⟨10, [], []⟩ :: ⟨11, [], []⟩ :: ⟨12, [], []⟩ :: ⟨13, [], []⟩ :: ⟨14, [], []⟩ :: ⟨15, [], []⟩ :: ⟨16, [], []⟩ :: ⟨17, [], []⟩ :: ⟨18, [], []⟩ :: ⟨19, [], []⟩ :: ⟨20, [], []⟩ :: ⟨21, [], []⟩ :: ⟨22, [], []⟩ :: ⟨23, [], []⟩ :: ⟨24, [], []⟩ :: ⟨25, [], []⟩ :: ⟨26, [], []⟩ :: ⟨27, [], []⟩ :: ⟨28, [], []⟩ :: ⟨29, [], []⟩ :: ⟨30, [], []⟩ :: ⟨31, [], []⟩ :: ⟨32, [], []⟩ :: ⟨33, [], []⟩ :: ⟨34, [], []⟩ :: ⟨35, [], []⟩ :: ⟨36, [], []⟩ :: ⟨37, [], []⟩ :: ⟨38, [], []⟩ :: ⟨39, [], []⟩ :: ⟨40, [], []⟩ :: ⟨41, [], []⟩ :: ⟨42, [], []⟩ :: ⟨43, [], []⟩ :: ⟨44, [], []⟩ :: ⟨45, [], []⟩ :: ⟨46, [], []⟩ :: ⟨47, [], []⟩ :: ⟨49, [], []⟩ :: ⟨50, [], []⟩ :: ⟨51, [], []⟩ :: ⟨52, [], []⟩ :: ⟨53, [], []⟩ :: ⟨54, [], []⟩ :: ⟨55, [], []⟩ :: ⟨48, [], [52, 55]⟩ :: ⟨56, [], []⟩ :: ⟨57, [], []⟩ :: ⟨58, [], []⟩ :: ⟨59, [], []⟩ :: [])))))
.skip))
(.seq
(.seq
(.plain (
⟨(some 119), .mv (.tmp 4), none⟩ ::
⟨(some 120), .callF 43 [(.tmp 119)], none⟩ ::
⟨(some 121), .bin .neq (.tmp 120) (.const (.int .i64 0)), none⟩ ::
⟨(some 122), .mv (.tmp 121), none⟩ ::
⟨(some 123), .mv (.tmp 6), (some (122, false))⟩ ::
⟨(some 124), .un .not (.tmp 123), (some (122, false))⟩ ::
⟨(some 125), .pick (.tmp 122) (.const (.bool true)) (.tmp 124), none⟩ ::
⟨(some 126), .mv (.tmp 125), none⟩ ::
⟨(some 127), .mv (.tmp 5), (some (126, false))⟩ ::
⟨(some 128), .callF 22 [(.tmp 127)], (some (126, false))⟩ ::
⟨(some 129), .mv (.tmp 0), (some (126, false))⟩ ::
⟨(some 130), .callF 44 [(.tmp 128), (.tmp 129)], (some (126, false))⟩ ::
⟨(some 131), .un .not (.tmp 130), (some (126, false))⟩ ::
⟨(some 132), .pick (.tmp 126) (.const (.bool true)) (.tmp 131), none⟩ ::
[]))
(.cond (.tmp 132)
(.seq
(.plain (
⟨(some 2), .mv (.const (.pointer none)), none⟩ ::
⟨(some 3), .mv (.const (.int .i64 21)), none⟩ ::
[]))
.ret)
.skip))
(.seq
(.plain (
⟨(some 133), .mv (.tmp 5), none⟩ ::
⟨(some 2), .mv (.tmp 133), none⟩ ::
⟨(some 3), .mv (.const (.int .i64 0)), none⟩ ::
[]))
.ret))))))))
theorem prep21 : prepFunc Try.prog false 21 = some F21 := by kernel_rfl

-- (*indenture/light.Follower).Save
def F22 : AFunc where
  ntmps := 50
  nparams := 1
  results := [(2, none)]
  code :=
(.seq
(.plain (
⟨(some 2), .mv (.const (.slice none 0 0)), none⟩ ::
[]))
(.seq
(.plain (
⟨(some 4), .bld [(.sl [] .nil), (.v (.int .i64 0))] [], none⟩ ::
⟨(some 5), .box 87 (.tmp 4), none⟩ ::
⟨(some 3), .mv (.tmp 5), none⟩ ::
[]))
(.seq
(.plain (
⟨(some 6), .mv (.tmp 3), none⟩ ::
⟨(some 7), .mv (.tmp 0), none⟩ ::
⟨(some 8), .nilc (.tmp 7), none⟩ ::
⟨(some 9), .fa 0 (.tmp 8), none⟩ ::
⟨(some 10), .load true 65 (.tmp 9), none⟩ ::
⟨(some 11), .callF 45 [(.tmp 6), (.tmp 10)], none⟩ ::
[]))
(.seq
(.plain (
⟨(some 12), .mv (.tmp 3), none⟩ ::
⟨(some 13), .mv (.tmp 0), none⟩ ::
⟨(some 14), .nilc (.tmp 13), none⟩ ::
⟨(some 15), .fa 65 (.tmp 14), none⟩ ::
⟨(some 16), .load false 1 (.tmp 15), none⟩ ::
⟨(some 17), .callF 46 [(.tmp 12), (.tmp 16)], none⟩ ::
[]))
(.seq
(.plain (
⟨(some 18), .mv (.tmp 3), none⟩ ::
⟨(some 19), .mv (.tmp 0), none⟩ ::
⟨(some 20), .nilc (.tmp 19), none⟩ ::
⟨(some 21), .fa 66 (.tmp 20), none⟩ ::
⟨(some 22), .load false 1 (.tmp 21), none⟩ ::
⟨(some 23), .eqp true (.tmp 22) (.const (.pointer none)), none⟩ ::
⟨(some 24), .callF 47 [(.tmp 18), (.tmp 23)], none⟩ ::
[]))
(.seq
(.seq
(.plain (
⟨(some 25), .mv (.tmp 0), none⟩ ::
⟨(some 26), .nilc (.tmp 25), none⟩ ::
⟨(some 27), .fa 66 (.tmp 26), none⟩ ::
⟨(some 28), .load false 1 (.tmp 27), none⟩ ::
⟨(some 29), .eqp true (.tmp 28) (.const (.pointer none)), none⟩ ::
[]))
(.cond (.tmp 29)
(.seq
(.plain (
⟨(some 30), .mv (.tmp 3), none⟩ ::
⟨(some 31), .mv (.tmp 0), none⟩ ::
⟨(some 32), .nilc (.tmp 31), none⟩ ::
⟨(some 33), .fa 66 (.tmp 32), none⟩ ::
⟨(some 34), .load false 1 (.tmp 33), none⟩ ::
⟨(some 35), .nilc (.tmp 34), none⟩ ::
⟨(some 36), .iaA 65 2 (.tmp 35) (.const (.int .i64 0)), none⟩ ::
⟨(some 37), .load true 65 (.tmp 36), none⟩ ::
⟨(some 38), .callF 45 [(.tmp 30), (.tmp 37)], none⟩ ::
[]))
(.plain (
⟨(some 39), .mv (.tmp 3), none⟩ ::
⟨(some 40), .mv (.tmp 0), none⟩ ::
⟨(some 41), .nilc (.tmp 40), none⟩ ::
⟨(some 42), .fa 66 (.tmp 41), none⟩ ::
⟨(some 43), .load false 1 (.tmp 42), none⟩ ::
⟨(some 44), .nilc (.tmp 43), none⟩ ::
⟨(some 45), .iaA 65 2 (.tmp 44) (.const (.int .i64 1)), none⟩ ::
⟨(some 46), .load true 65 (.tmp 45), none⟩ ::
⟨(some 47), .callF 45 [(.tmp 39), (.tmp 46)], none⟩ ::
[])))
.skip))
(.seq
(.plain (
⟨(some 48), .mv (.tmp 3), none⟩ ::
⟨(some 49), .callF 48 [(.tmp 48)], none⟩ ::
⟨(some 2), .mv (.tmp 49), none⟩ ::
[]))
.ret)))))))
theorem prep22 : prepFunc Try.prog false 22 = some F22 := by kernel_rfl

-- (*indenture/indentureref34.Follower).Bytes
def F23 : AFunc where
  ntmps := 41
  nparams := 1
  results := [(2, none)]
  code :=
(.seq
(.plain (
⟨(some 2), .mv (.const (.slice none 0 0)), none⟩ ::
[]))
(.seq
(.draw (
⟨(some 4), .mv (.tmp 0), none⟩ ::
⟨(some 5), .nilc (.tmp 4), none⟩ ::
⟨(some 6), .fa 0 (.tmp 5), none⟩ ::
⟨(some 7), .load true 65 (.tmp 6), none⟩ ::
⟨(some 8), .callF 49 [(.tmp 7)], none⟩ ::
⟨(some 9), .mv (.tmp 0), none⟩ ::
⟨(some 10), .nilc (.tmp 9), none⟩ ::
⟨(some 11), .fa 65 (.tmp 10), none⟩ ::
⟨(some 12), .load false 1 (.tmp 11), none⟩ ::
⟨(some 13), .callF 50 [(.tmp 12)], none⟩ ::
⟨(some 14), .appM 1 1 (.tmp 8) (.tmp 13), none⟩ ::
⟨(some 3), .mv (.tmp 14), none⟩ ::
[])
(⟨0, [], []⟩ :: ⟨1, [], []⟩ :: ⟨2, [], []⟩ :: ⟨3, [], []⟩ :: ⟨5, [], []⟩ :: ⟨6, [], []⟩ :: ⟨7, [], []⟩ :: ⟨8, [], []⟩ :: ⟨4, [], [8]⟩ :: ⟨9, [], []⟩ :: ⟨10, [], []⟩ :: ⟨11, [], []⟩ :: []))
(.seq
(.plain (
⟨(some 15), .mv (.tmp 3), none⟩ ::
⟨(some 16), .mv (.tmp 0), none⟩ ::
⟨(some 17), .nilc (.tmp 16), none⟩ ::
⟨(some 18), .fa 66 (.tmp 17), none⟩ ::
⟨(some 19), .load false 1 (.tmp 18), none⟩ ::
⟨(some 20), .callF 51 [(.tmp 19)], none⟩ ::
⟨(some 21), .appM 1 1 (.tmp 15) (.tmp 20), none⟩ ::
⟨(some 3), .mv (.tmp 21), none⟩ ::
[]))
(.seq
(.seq
(.plain (
⟨(some 22), .mv (.tmp 0), none⟩ ::
⟨(some 23), .nilc (.tmp 22), none⟩ ::
⟨(some 24), .fa 66 (.tmp 23), none⟩ ::
⟨(some 25), .load false 1 (.tmp 24), none⟩ ::
[]))
(.cond (.tmp 25)
(.seq
(.plain (
⟨(some 26), .mv (.tmp 3), none⟩ ::
⟨(some 27), .mv (.tmp 0), none⟩ ::
⟨(some 28), .nilc (.tmp 27), none⟩ ::
⟨(some 29), .fa 67 (.tmp 28), none⟩ ::
⟨(some 30), .load true 65 (.tmp 29), none⟩ ::
⟨(some 31), .callF 49 [(.tmp 30)], none⟩ ::
⟨(some 32), .appM 1 1 (.tmp 26) (.tmp 31), none⟩ ::
⟨(some 3), .mv (.tmp 32), none⟩ ::
[]))
(.plain (
⟨(some 33), .mv (.tmp 3), none⟩ ::
⟨(some 34), .mv (.tmp 0), none⟩ ::
⟨(some 35), .nilc (.tmp 34), none⟩ ::
⟨(some 36), .fa 132 (.tmp 35), none⟩ ::
⟨(some 37), .load true 65 (.tmp 36), none⟩ ::
⟨(some 38), .callF 49 [(.tmp 37)], none⟩ ::
⟨(some 39), .appM 1 1 (.tmp 33) (.tmp 38), none⟩ ::
⟨(some 3), .mv (.tmp 39), none⟩ ::
[])))
.skip))
(.seq
(.plain (
⟨(some 40), .mv (.tmp 3), none⟩ ::
⟨(some 2), .mv (.tmp 40), none⟩ ::
[]))
.ret)))))
theorem prep23 : prepFunc Try.prog true 23 = some F23 := by kernel_rfl

-- (*indenture/light.Follower).Fork
def F24 : AFunc where
  ntmps := 26
  nparams := 1
  results := [(2, (some (true, 65))), (3, (some (true, 65))), (4, none)]
  code :=
(.seq
(.plain (
⟨(some 2), .alloc 26 ([(.v (.int .i64 0))] ++ List.replicate 64 (.v (.int .u8 0))), none⟩ ::
⟨(some 3), .alloc 26 ([(.v (.int .i64 0))] ++ List.replicate 64 (.v (.int .u8 0))), none⟩ ::
⟨(some 4), .mv (.const (.bool false)), none⟩ ::
[]))
(.seq
(.seq
(.plain (
⟨(some 5), .mv (.tmp 0), none⟩ ::
⟨(some 6), .nilc (.tmp 5), none⟩ ::
⟨(some 7), .fa 66 (.tmp 6), none⟩ ::
⟨(some 8), .load false 1 (.tmp 7), none⟩ ::
⟨(some 9), .eqp false (.tmp 8) (.const (.pointer none)), none⟩ ::
[]))
(.cond (.tmp 9)
(.seq
(.plain (
⟨(some 10), .bld ([(.v (.int .i64 0))] ++ List.replicate 64 (.v (.int .u8 0))) [], none⟩ ::
⟨(some 11), .bld ([(.v (.int .i64 0))] ++ List.replicate 64 (.v (.int .u8 0))) [], none⟩ ::
⟨none, .store 65 (.tmp 2) (.tmp 10), none⟩ ::
⟨none, .store 65 (.tmp 3) (.tmp 11), none⟩ ::
⟨(some 4), .mv (.const (.bool false)), none⟩ ::
[]))
.ret)
.skip))
(.seq
(.draw (
⟨(some 12), .mv (.tmp 0), none⟩ ::
⟨(some 13), .nilc (.tmp 12), none⟩ ::
⟨(some 14), .fa 66 (.tmp 13), none⟩ ::
⟨(some 15), .load false 1 (.tmp 14), none⟩ ::
⟨(some 16), .nilc (.tmp 15), none⟩ ::
⟨(some 17), .iaA 65 2 (.tmp 16) (.const (.int .i64 0)), none⟩ ::
⟨(some 18), .load true 65 (.tmp 17), none⟩ ::
⟨(some 19), .mv (.tmp 0), none⟩ ::
⟨(some 20), .nilc (.tmp 19), none⟩ ::
⟨(some 21), .fa 66 (.tmp 20), none⟩ ::
⟨(some 22), .load false 1 (.tmp 21), none⟩ ::
⟨(some 23), .nilc (.tmp 22), none⟩ ::
⟨(some 24), .iaA 65 2 (.tmp 23) (.const (.int .i64 1)), none⟩ ::
⟨(some 25), .load true 65 (.tmp 24), none⟩ ::
⟨none, .store 65 (.tmp 2) (.tmp 18), none⟩ ::
⟨none, .store 65 (.tmp 3) (.tmp 25), none⟩ ::
⟨(some 4), .mv (.const (.bool true)), none⟩ ::
[])
(⟨0, [], []⟩ :: ⟨1, [], []⟩ :: ⟨2, [], []⟩ :: ⟨3, [], []⟩ :: ⟨4, [], []⟩ :: ⟨5, [], []⟩ :: ⟨6, [], []⟩ :: ⟨7, [], []⟩ :: ⟨8, [], []⟩ :: ⟨9, [], []⟩ :: ⟨10, [], []⟩ :: ⟨11, [], []⟩ :: ⟨12, [], []⟩ :: ⟨13, [], []⟩ :: ⟨14, [], [10, 13]⟩ :: ⟨15, [], []⟩ :: ⟨16, [], []⟩ :: []))
.ret)))
theorem prep24 : prepFunc Try.prog false 24 = some F24 := by kernel_rfl

-- indenture/history.Root
def F25 : AFunc where
  ntmps := 30
  nparams := 1
  results := [(2, (some (true, 32)))]
  code :=
(.seq
(.plain (
⟨(some 2), .alloc 24 (List.replicate 32 (.v (.int .u8 0))), none⟩ ::
[]))
(.seq
(.plain (
⟨(some 5), .mv (.tmp 0), none⟩ ::
⟨(some 6), .len (.tmp 5), none⟩ ::
⟨(some 3), .mv (.tmp 6), none⟩ ::
[]))
(.seq
(.plain (
⟨(some 7), .mv (.tmp 3), none⟩ ::
[]))
(.block 0
(.seq
(.plain (
⟨(some 21), .bin .eql (.tmp 7) (.const (.int .i64 0)), none⟩ ::
⟨(some 20), .mv (.tmp 21), none⟩ ::
[]))
(.cond (.tmp 20)
(.seq
(.plain (
⟨(some 22), .callF 52 [(.const (.int .u8 72)), (.const (.slice none 0 0))], none⟩ ::
⟨none, .store 32 (.tmp 2) (.tmp 22), none⟩ ::
[]))
.ret)
(.seq
(.plain (
⟨(some 24), .bin .eql (.tmp 7) (.const (.int .i64 1)), none⟩ ::
⟨(some 23), .mv (.tmp 24), none⟩ ::
[]))
(.cond (.tmp 23)
(.seq
(.plain (
⟨(some 25), .mv (.tmp 0), none⟩ ::
⟨(some 26), .iaS 32 (.tmp 25) (.const (.int .i64 0)), none⟩ ::
⟨(some 27), .load true 32 (.tmp 26), none⟩ ::
⟨(some 28), .callF 53 [(.tmp 27)], none⟩ ::
⟨(some 29), .callF 34 [(.tmp 28)], none⟩ ::
⟨none, .store 32 (.tmp 2) (.tmp 29), none⟩ ::
[]))
.ret)
(.seq
(.plain (
⟨(some 8), .mv (.tmp 3), none⟩ ::
⟨(some 9), .callF 54 [(.tmp 8)], none⟩ ::
⟨(some 4), .mv (.tmp 9), none⟩ ::
[]))
(.seq
(.draw (
⟨(some 10), .mv (.tmp 0), none⟩ ::
⟨(some 11), .mv (.tmp 4), none⟩ ::
⟨(some 12), .slc 32 (.tmp 10) none (some (.tmp 11)), none⟩ ::
⟨(some 13), .callF 25 [(.tmp 12)], none⟩ ::
⟨(some 14), .mv (.tmp 0), none⟩ ::
⟨(some 15), .mv (.tmp 4), none⟩ ::
⟨(some 16), .slc 32 (.tmp 14) (some (.tmp 15)) none, none⟩ ::
⟨(some 17), .callF 25 [(.tmp 16)], none⟩ ::
⟨(some 18), .callF 55 [(.tmp 13), (.tmp 17)], none⟩ ::
⟨(some 19), .callF 34 [(.tmp 18)], none⟩ ::
⟨none, .store 32 (.tmp 2) (.tmp 19), none⟩ ::
[])
(⟨0, [], []⟩ :: ⟨1, [], []⟩ :: ⟨2, [], []⟩ :: ⟨4, [], []⟩ :: ⟨5, [], []⟩ :: ⟨6, [], []⟩ :: ⟨3, [], []⟩ :: ⟨7, [], []⟩ :: ⟨8, [], []⟩ :: ⟨9, [], []⟩ :: ⟨10, [], []⟩ :: []))
.ret))))))))))
theorem prep25 : prepFunc Try.prog false 25 = some F25 := by kernel_rfl

-- indenture/block.Digest
def F26 : AFunc where
  ntmps := 6
  nparams := 1
  results := [(2, (some (true, 32)))]
  code :=
(.seq
(.plain (
⟨(some 1), .box 26 (.tmp 0), none⟩ ::
⟨(some 2), .alloc 24 (List.replicate 32 (.v (.int .u8 0))), none⟩ ::
[]))
(.seq
(.plain (
⟨(some 3), .load true 65 (.tmp 1), none⟩ ::
⟨(some 4), .callF 56 [(.tmp 3)], none⟩ ::
⟨(some 5), .callF 34 [(.tmp 4)], none⟩ ::
⟨none, .store 32 (.tmp 2) (.tmp 5), none⟩ ::
[]))
.ret))
theorem prep26 : prepFunc Try.prog false 26 = some F26 := by kernel_rfl

-- indenture/light.right
def F27 : AFunc where
  ntmps := 11
  nparams := 1
  results := [(2, none)]
  code :=
(.seq
(.plain (
⟨(some 1), .box 26 (.tmp 0), none⟩ ::
⟨(some 2), .mv (.const (.bool false)), none⟩ ::
[]))
(.seq
(.plain (
⟨(some 3), .fa 0 (.tmp 1), none⟩ ::
⟨(some 4), .load false 1 (.tmp 3), none⟩ ::
⟨(some 5), .bin .geq (.tmp 4) (.const (.int .i64 0)), none⟩ ::
⟨(some 6), .mv (.tmp 5), none⟩ ::
⟨(some 7), .fa 0 (.tmp 1), (some (6, true))⟩ ::
⟨(some 8), .load false 1 (.tmp 7), (some (6, true))⟩ ::
⟨(some 9), .bin .leq (.tmp 8) (.const (.int .i64 1099511627776)), (some (6, true))⟩ ::
⟨(some 10), .pick (.tmp 6) (.tmp 9) (.const (.bool false)), none⟩ ::
⟨(some 2), .mv (.tmp 10), none⟩ ::
[]))
.ret))
theorem prep27 : prepFunc Try.prog false 27 = some F27 := by kernel_rfl

-- (*indenture/light.Follower).Digest
def F28 : AFunc where
  ntmps := 8
  nparams := 1
  results := [(2, (some (true, 32)))]
  code :=
(.seq
(.plain (
⟨(some 2), .alloc 24 (List.replicate 32 (.v (.int .u8 0))), none⟩ ::
[]))
(.seq
(.plain (
⟨(some 3), .mv (.tmp 0), none⟩ ::
⟨(some 4), .nilc (.tmp 3), none⟩ ::
⟨(some 5), .fa 0 (.tmp 4), none⟩ ::
⟨(some 6), .load true 65 (.tmp 5), none⟩ ::
⟨(some 7), .callF 26 [(.tmp 6)], none⟩ ::
⟨none, .store 32 (.tmp 2) (.tmp 7), none⟩ ::
[]))
.ret))
theorem prep28 : prepFunc Try.prog false 28 = some F28 := by kernel_rfl

-- (*indenture/light.Follower).keep
def F29 : AFunc where
  ntmps := 19
  nparams := 2
  results := []
  code :=
(.seq
(.plain (
⟨(some 3), .box 26 (.tmp 1), none⟩ ::
[]))
(.seq
(.plain (
⟨(some 4), .mv (.tmp 0), none⟩ ::
⟨(some 5), .nilc (.tmp 4), none⟩ ::
⟨(some 6), .fa 66 (.tmp 5), none⟩ ::
⟨(some 7), .load false 1 (.tmp 6), none⟩ ::
⟨(some 8), .eqp false (.tmp 7) (.const (.pointer none)), none⟩ ::
[]))
(.cond (.tmp 8)
(.draw (
⟨(some 9), .mv (.tmp 0), none⟩ ::
⟨(some 10), .load true 65 (.tmp 3), none⟩ ::
⟨(some 11), .mv (.tmp 0), none⟩ ::
⟨(some 12), .nilc (.tmp 11), none⟩ ::
⟨(some 13), .fa 0 (.tmp 12), none⟩ ::
⟨(some 14), .load true 65 (.tmp 13), none⟩ ::
⟨(some 15), .bld ([(.v (.int .i64 0))] ++ List.replicate 64 (.v (.int .u8 0)) ++ [(.v (.int .i64 0))] ++ List.replicate 64 (.v (.int .u8 0))) [(0, 65, (.tmp 10)), (65, 65, (.tmp 14))], none⟩ ::
⟨(some 16), .box 82 (.tmp 15), none⟩ ::
⟨(some 17), .nilc (.tmp 9), none⟩ ::
⟨(some 18), .fa 66 (.tmp 17), none⟩ ::
⟨none, .store 1 (.tmp 18) (.tmp 16), none⟩ ::
[])
(⟨0, [], []⟩ :: ⟨1, [], []⟩ :: ⟨2, [], []⟩ :: ⟨3, [], []⟩ :: ⟨4, [], []⟩ :: ⟨5, [], []⟩ :: ⟨6, [], []⟩ :: ⟨7, [], []⟩ :: ⟨8, [], []⟩ :: ⟨9, [], []⟩ :: ⟨10, [], []⟩ :: []))
.skip)))
theorem prep29 : prepFunc Try.prog false 29 = some F29 := by kernel_rfl

-- indenture/history.Grows
def F30 : AFunc where
  ntmps := 60
  nparams := 5
  results := [(10, none)]
  code :=
(.seq
(.plain (
⟨(some 5), .box 24 (.tmp 0), none⟩ ::
⟨(some 7), .box 24 (.tmp 2), none⟩ ::
⟨(some 10), .mv (.const (.bool false)), none⟩ ::
[]))
(.seq
(.block 0
(.seq
(.plain (
⟨(some 15), .mv (.tmp 1), none⟩ ::
⟨(some 16), .bin .lss (.tmp 15) (.const (.int .i64 0)), none⟩ ::
⟨(some 17), .mv (.tmp 16), none⟩ ::
⟨(some 18), .mv (.tmp 1), (some (17, false))⟩ ::
⟨(some 19), .mv (.tmp 3), (some (17, false))⟩ ::
⟨(some 20), .bin .gtr (.tmp 18) (.tmp 19), (some (17, false))⟩ ::
⟨(some 21), .pick (.tmp 17) (.const (.bool true)) (.tmp 20), none⟩ ::
⟨(some 22), .mv (.tmp 21), none⟩ ::
⟨(some 23), .mv (.tmp 3), (some (22, false))⟩ ::
⟨(some 24), .bin .gtr (.tmp 23) (.const (.int .i64 1099511627776)), (some (22, false))⟩ ::
⟨(some 25), .pick (.tmp 22) (.const (.bool true)) (.tmp 24), none⟩ ::
⟨(some 14), .mv (.tmp 25), none⟩ ::
[]))
(.cond (.tmp 14)
(.seq
(.plain (
⟨(some 10), .mv (.const (.bool false)), none⟩ ::
[]))
.ret)
(.seq
(.plain (
⟨(some 27), .mv (.tmp 1), none⟩ ::
⟨(some 28), .bin .eql (.tmp 27) (.const (.int .i64 0)), none⟩ ::
⟨(some 26), .mv (.tmp 28), none⟩ ::
[]))
(.cond (.tmp 26)
(.seq
(.draw (
⟨(some 29), .load true 32 (.tmp 5), none⟩ ::
⟨(some 30), .callF 52 [(.const (.int .u8 72)), (.const (.slice none 0 0))], none⟩ ::
⟨(some 31), .eqv false [(32, .int .u8)] (.tmp 29) (.tmp 30), none⟩ ::
⟨(some 32), .mv (.tmp 31), none⟩ ::
⟨(some 33), .mv (.tmp 4), (some (32, true))⟩ ::
⟨(some 34), .len (.tmp 33), (some (32, true))⟩ ::
⟨(some 35), .bin .eql (.tmp 34) (.const (.int .i64 0)), (some (32, true))⟩ ::
⟨(some 36), .pick (.tmp 32) (.tmp 35) (.const (.bool false)), none⟩ ::
⟨(some 10), .mv (.tmp 36), none⟩ ::
[])
(⟨0, [], []⟩ :: ⟨1, [], [0]⟩ :: ⟨2, [], []⟩ :: ⟨3, [], []⟩ :: ⟨4, [], []⟩ :: ⟨5, [], []⟩ :: ⟨6, [], []⟩ :: ⟨7, [], []⟩ :: ⟨8, [], []⟩ :: []))
.ret)
.skip)))))
(.seq
(.plain (
⟨(some 37), .mv (.tmp 4), none⟩ ::
⟨(some 38), .bld [(.sl [] .nil), (.sl [] .nil), (.v (.bool false))] [(0, 1, (.tmp 37))], none⟩ ::
⟨(some 39), .box 73 (.tmp 38), none⟩ ::
⟨(some 11), .mv (.tmp 39), none⟩ ::
[]))
(.seq
(.plain (
⟨(some 41), .mv (.tmp 11), none⟩ ::
⟨(some 42), .load true 32 (.tmp 5), none⟩ ::
⟨(some 43), .mv (.tmp 1), none⟩ ::
⟨(some 44), .mv (.tmp 3), none⟩ ::
⟨(some 45), .callF 35 [(.tmp 41), (.tmp 42), (.tmp 43), (.tmp 44), (.const (.bool true))], none⟩ ::
⟨(some 40), .mv (.tmp 45), none⟩ ::
⟨(some 46), .ext (.tmp 40) 0, none⟩ ::
⟨(some 47), .ext (.tmp 40) 1, none⟩ ::
⟨(some 12), .alloc 24 (List.replicate 32 (.v (.int .u8 0))), none⟩ ::
⟨(some 13), .alloc 24 (List.replicate 32 (.v (.int .u8 0))), none⟩ ::
⟨none, .store 32 (.tmp 12) (.tmp 46), none⟩ ::
⟨none, .store 32 (.tmp 13) (.tmp 47), none⟩ ::
[]))
(.seq
(.plain (
⟨(some 48), .mv (.tmp 11), none⟩ ::
⟨(some 49), .callF 32 [(.tmp 48)], none⟩ ::
⟨(some 50), .mv (.tmp 49), none⟩ ::
⟨(some 51), .load true 32 (.tmp 12), (some (50, true))⟩ ::
⟨(some 52), .load true 32 (.tmp 5), (some (50, true))⟩ ::
⟨(some 53), .eqv false [(32, .int .u8)] (.tmp 51) (.tmp 52), (some (50, true))⟩ ::
⟨(some 54), .pick (.tmp 50) (.tmp 53) (.const (.bool false)), none⟩ ::
⟨(some 55), .mv (.tmp 54), none⟩ ::
⟨(some 56), .load true 32 (.tmp 13), (some (55, true))⟩ ::
⟨(some 57), .load true 32 (.tmp 7), (some (55, true))⟩ ::
⟨(some 58), .eqv false [(32, .int .u8)] (.tmp 56) (.tmp 57), (some (55, true))⟩ ::
⟨(some 59), .pick (.tmp 55) (.tmp 58) (.const (.bool false)), none⟩ ::
⟨(some 10), .mv (.tmp 59), none⟩ ::
[]))
.ret)))))
theorem prep30 : prepFunc Try.prog false 30 = some F30 := by kernel_rfl

-- indenture/history.inPath
def F31 : AFunc where
  ntmps := 36
  nparams := 4
  results := [(8, none), (9, (some (true, 32)))]
  code :=
(.seq
(.plain (
⟨(some 6), .box 24 (.tmp 2), none⟩ ::
⟨(some 8), .mv (.const (.pointer none)), none⟩ ::
⟨(some 9), .alloc 24 (List.replicate 32 (.v (.int .u8 0))), none⟩ ::
[]))
(.seq
(.seq
(.plain (
⟨(some 11), .mv (.tmp 0), none⟩ ::
⟨(some 12), .bin .lss (.tmp 11) (.const (.int .i64 1)), none⟩ ::
⟨(some 13), .mv (.tmp 12), none⟩ ::
⟨(some 14), .mv (.tmp 0), (some (13, false))⟩ ::
⟨(some 15), .bin .gtr (.tmp 14) (.const (.int .i64 1099511627776)), (some (13, false))⟩ ::
⟨(some 16), .pick (.tmp 13) (.const (.bool true)) (.tmp 15), none⟩ ::
⟨(some 17), .mv (.tmp 16), none⟩ ::
⟨(some 18), .mv (.tmp 1), (some (17, false))⟩ ::
⟨(some 19), .bin .lss (.tmp 18) (.const (.int .i64 0)), (some (17, false))⟩ ::
⟨(some 20), .pick (.tmp 17) (.const (.bool true)) (.tmp 19), none⟩ ::
⟨(some 21), .mv (.tmp 20), none⟩ ::
⟨(some 22), .mv (.tmp 1), (some (21, false))⟩ ::
⟨(some 23), .mv (.tmp 0), (some (21, false))⟩ ::
⟨(some 24), .bin .geq (.tmp 22) (.tmp 23), (some (21, false))⟩ ::
⟨(some 25), .pick (.tmp 21) (.const (.bool true)) (.tmp 24), none⟩ ::
[]))
(.cond (.tmp 25)
(.seq
(.plain (
⟨(some 26), .bld (List.replicate 32 (.v (.int .u8 0))) [], none⟩ ::
⟨(some 8), .mv (.const (.pointer none)), none⟩ ::
⟨none, .store 32 (.tmp 9) (.tmp 26), none⟩ ::
[]))
.ret)
.skip))
(.seq
(.plain (
⟨(some 27), .mv (.tmp 3), none⟩ ::
⟨(some 28), .bld [(.sl [] .nil), (.sl [] .nil), (.v (.bool false))] [(0, 1, (.tmp 27))], none⟩ ::
⟨(some 29), .box 73 (.tmp 28), none⟩ ::
⟨(some 10), .mv (.tmp 29), none⟩ ::
[]))
(.seq
(.plain (
⟨(some 30), .mv (.tmp 10), none⟩ ::
⟨(some 31), .mv (.tmp 10), none⟩ ::
⟨(some 32), .mv (.tmp 0), none⟩ ::
⟨(some 33), .mv (.tmp 1), none⟩ ::
⟨(some 34), .load true 32 (.tmp 6), none⟩ ::
⟨(some 35), .callF 57 [(.tmp 31), (.tmp 32), (.tmp 33), (.tmp 34)], none⟩ ::
⟨(some 8), .mv (.tmp 30), none⟩ ::
⟨none, .store 32 (.tmp 9) (.tmp 35), none⟩ ::
[]))
.ret))))
theorem prep31 : prepFunc Try.prog false 31 = some F31 := by kernel_rfl

-- (*indenture/history.proof).good
def F32 : AFunc where
  ntmps := 16
  nparams := 1
  results := [(2, none)]
  code :=
(.seq
(.plain (
⟨(some 2), .mv (.const (.bool false)), none⟩ ::
[]))
(.seq
(.plain (
⟨(some 3), .mv (.tmp 0), none⟩ ::
⟨(some 4), .nilc (.tmp 3), none⟩ ::
⟨(some 5), .fa 2 (.tmp 4), none⟩ ::
⟨(some 6), .load false 1 (.tmp 5), none⟩ ::
⟨(some 7), .un .not (.tmp 6), none⟩ ::
⟨(some 8), .mv (.tmp 7), none⟩ ::
⟨(some 9), .mv (.tmp 0), (some (8, true))⟩ ::
⟨(some 10), .nilc (.tmp 9), (some (8, true))⟩ ::
⟨(some 11), .fa 0 (.tmp 10), (some (8, true))⟩ ::
⟨(some 12), .load false 1 (.tmp 11), (some (8, true))⟩ ::
⟨(some 13), .len (.tmp 12), (some (8, true))⟩ ::
⟨(some 14), .bin .eql (.tmp 13) (.const (.int .i64 0)), (some (8, true))⟩ ::
⟨(some 15), .pick (.tmp 8) (.tmp 14) (.const (.bool false)), none⟩ ::
⟨(some 2), .mv (.tmp 15), none⟩ ::
[]))
.ret))
theorem prep32 : prepFunc Try.prog false 32 = some F32 := by kernel_rfl

-- indenture/history.path
def F33 : AFunc where
  ntmps := 39
  nparams := 2
  results := [(4, none)]
  code :=
(.seq
(.plain (
⟨(some 4), .mv (.const (.slice none 0 0)), none⟩ ::
[]))
(.seq
(.seq
(.plain (
⟨(some 6), .mv (.tmp 0), none⟩ ::
⟨(some 7), .len (.tmp 6), none⟩ ::
⟨(some 8), .bin .eql (.tmp 7) (.const (.int .i64 1)), none⟩ ::
[]))
(.cond (.tmp 8)
(.seq
(.plain (
⟨(some 4), .mv (.const (.slice none 0 0)), none⟩ ::
[]))
.ret)
.skip))
(.seq
(.plain (
⟨(some 9), .mv (.tmp 0), none⟩ ::
⟨(some 10), .len (.tmp 9), none⟩ ::
⟨(some 11), .callF 54 [(.tmp 10)], none⟩ ::
⟨(some 5), .mv (.tmp 11), none⟩ ::
[]))
(.seq
(.seq
(.plain (
⟨(some 12), .mv (.tmp 1), none⟩ ::
⟨(some 13), .mv (.tmp 5), none⟩ ::
⟨(some 14), .bin .lss (.tmp 12) (.tmp 13), none⟩ ::
[]))
(.cond (.tmp 14)
(.seq
(.draw (
⟨(some 15), .mv (.tmp 0), none⟩ ::
⟨(some 16), .mv (.tmp 5), none⟩ ::
⟨(some 17), .slc 32 (.tmp 15) none (some (.tmp 16)), none⟩ ::
⟨(some 18), .mv (.tmp 1), none⟩ ::
⟨(some 19), .callF 33 [(.tmp 17), (.tmp 18)], none⟩ ::
⟨(some 20), .mv (.tmp 0), none⟩ ::
⟨(some 21), .mv (.tmp 5), none⟩ ::
⟨(some 22), .slc 32 (.tmp 20) (some (.tmp 21)) none, none⟩ ::
⟨(some 23), .callF 25 [(.tmp 22)], none⟩ ::
⟨(some 24), .bsl 32 [(.tmp 23)], none⟩ ::
⟨(some 25), .app 32 32 (.tmp 19) (.tmp 24), none⟩ ::
⟨(some 4), .mv (.tmp 25), none⟩ ::
[])
(⟨0, [], []⟩ :: ⟨1, [], []⟩ :: ⟨2, [], []⟩ :: ⟨3, [], []⟩ :: ⟨5, [], []⟩ :: ⟨6, [], []⟩ :: ⟨7, [], []⟩ :: ⟨4, [], []⟩ :: ⟨8, [], []⟩ :: ⟨9, [], []⟩ :: ⟨10, [], []⟩ :: ⟨11, [], []⟩ :: []))
.ret)
.skip))
(.seq
(.draw (
⟨(some 26), .mv (.tmp 0), none⟩ ::
⟨(some 27), .mv (.tmp 5), none⟩ ::
⟨(some 28), .slc 32 (.tmp 26) (some (.tmp 27)) none, none⟩ ::
⟨(some 29), .mv (.tmp 1), none⟩ ::
⟨(some 30), .mv (.tmp 5), none⟩ ::
⟨(some 31), .bin .sub (.tmp 29) (.tmp 30), none⟩ ::
⟨(some 32), .callF 33 [(.tmp 28), (.tmp 31)], none⟩ ::
⟨(some 33), .mv (.tmp 0), none⟩ ::
⟨(some 34), .mv (.tmp 5), none⟩ ::
⟨(some 35), .slc 32 (.tmp 33) none (some (.tmp 34)), none⟩ ::
⟨(some 36), .callF 25 [(.tmp 35)], none⟩ ::
⟨(some 37), .bsl 32 [(.tmp 36)], none⟩ ::
⟨(some 38), .app 32 32 (.tmp 32) (.tmp 37), none⟩ ::
⟨(some 4), .mv (.tmp 38), none⟩ ::
[])
(⟨0, [], []⟩ :: ⟨1, [], []⟩ :: ⟨2, [], []⟩ :: ⟨3, [], []⟩ :: ⟨4, [], []⟩ :: ⟨5, [], []⟩ :: ⟨7, [], []⟩ :: ⟨8, [], []⟩ :: ⟨9, [], []⟩ :: ⟨6, [], []⟩ :: ⟨10, [], []⟩ :: ⟨11, [], []⟩ :: ⟨12, [], []⟩ :: ⟨13, [], []⟩ :: []))
.ret)))))
theorem prep33 : prepFunc Try.prog false 33 = some F33 := by kernel_rfl

-- indenture/sha.Sum
def F34 : AFunc where
  ntmps := 10
  nparams := 1
  results := [(2, (some (true, 32)))]
  code :=
(.seq
(.plain (
⟨(some 2), .alloc 24 (List.replicate 32 (.v (.int .u8 0))), none⟩ ::
[]))
(.seq
(.plain (
⟨(some 4), .callF 58 [], none⟩ ::
⟨(some 3), .mv (.tmp 4), none⟩ ::
[]))
(.seq
(.plain (
⟨(some 5), .mv (.tmp 3), none⟩ ::
⟨(some 6), .mv (.tmp 0), none⟩ ::
⟨(some 7), .callF 59 [(.tmp 5), (.tmp 6)], none⟩ ::
[]))
(.seq
(.plain (
⟨(some 8), .mv (.tmp 3), none⟩ ::
⟨(some 9), .callF 60 [(.tmp 8)], none⟩ ::
⟨none, .store 32 (.tmp 2) (.tmp 9), none⟩ ::
[]))
.ret))))
theorem prep34 : prepFunc Try.prog false 34 = some F34 := by kernel_rfl

-- (*indenture/history.proof).both
def F35 : AFunc where
  ntmps := 81
  nparams := 5
  results := [(10, (some (true, 32))), (11, (some (true, 32)))]
  code :=
(.seq
(.plain (
⟨(some 6), .box 24 (.tmp 1), none⟩ ::
⟨(some 10), .alloc 24 (List.replicate 32 (.v (.int .u8 0))), none⟩ ::
⟨(some 11), .alloc 24 (List.replicate 32 (.v (.int .u8 0))), none⟩ ::
[]))
(.seq
(.seq
(.plain (
⟨(some 18), .mv (.tmp 2), none⟩ ::
⟨(some 19), .mv (.tmp 3), none⟩ ::
⟨(some 20), .bin .eql (.tmp 18) (.tmp 19), none⟩ ::
⟨(some 21), .mv (.tmp 20), none⟩ ::
⟨(some 22), .mv (.tmp 4), (some (21, true))⟩ ::
⟨(some 23), .pick (.tmp 21) (.tmp 22) (.const (.bool false)), none⟩ ::
[]))
(.cond (.tmp 23)
(.seq
(.draw (
⟨(some 24), .load true 32 (.tmp 6), none⟩ ::
⟨(some 25), .load true 32 (.tmp 6), none⟩ ::
⟨none, .store 32 (.tmp 10) (.tmp 24), none⟩ ::
⟨none, .store 32 (.tmp 11) (.tmp 25), none⟩ ::
[])
(⟨0, [], []⟩ :: ⟨1, [], []⟩ :: ⟨2, [], [1]⟩ :: ⟨3, [], []⟩ :: []))
.ret)
.skip))
(.seq
(.plain (
⟨(some 26), .mv (.tmp 0), none⟩ ::
⟨(some 27), .callF 61 [(.tmp 26)], none⟩ ::
⟨(some 12), .alloc 24 (List.replicate 32 (.v (.int .u8 0))), none⟩ ::
⟨none, .store 32 (.tmp 12) (.tmp 27), none⟩ ::
[]))
(.seq
(.seq
(.plain (
⟨(some 28), .mv (.tmp 0), none⟩ ::
⟨(some 29), .nilc (.tmp 28), none⟩ ::
⟨(some 30), .fa 2 (.tmp 29), none⟩ ::
⟨(some 31), .load false 1 (.tmp 30), none⟩ ::
⟨(some 32), .mv (.tmp 31), none⟩ ::
⟨(some 33), .mv (.tmp 2), (some (32, false))⟩ ::
⟨(some 34), .mv (.tmp 3), (some (32, false))⟩ ::
⟨(some 35), .bin .eql (.tmp 33) (.tmp 34), (some (32, false))⟩ ::
⟨(some 36), .pick (.tmp 32) (.const (.bool true)) (.tmp 35), none⟩ ::
[]))
(.cond (.tmp 36)
(.seq
(.draw (
⟨(some 37), .load true 32 (.tmp 12), none⟩ ::
⟨(some 38), .load true 32 (.tmp 12), none⟩ ::
⟨none, .store 32 (.tmp 10) (.tmp 37), none⟩ ::
⟨none, .store 32 (.tmp 11) (.tmp 38), none⟩ ::
[])
(⟨0, [], []⟩ :: ⟨1, [], []⟩ :: ⟨2, [], [1]⟩ :: ⟨3, [], []⟩ :: []))
.ret)
.skip))
(.seq
(.plain (
⟨(some 39), .mv (.tmp 3), none⟩ ::
⟨(some 40), .callF 54 [(.tmp 39)], none⟩ ::
⟨(some 13), .mv (.tmp 40), none⟩ ::
[]))
(.seq
(.seq
(.plain (
⟨(some 41), .mv (.tmp 2), none⟩ ::
⟨(some 42), .mv (.tmp 13), none⟩ ::
⟨(some 43), .bin .leq (.tmp 41) (.tmp 42), none⟩ ::
[]))
(.cond (.tmp 43)
(.seq
(.plain (
⟨(some 45), .mv (.tmp 0), none⟩ ::
⟨(some 46), .load true 32 (.tmp 6), none⟩ ::
⟨(some 47), .mv (.tmp 2), none⟩ ::
⟨(some 48), .mv (.tmp 13), none⟩ ::
⟨(some 49), .mv (.tmp 4), none⟩ ::
⟨(some 50), .callF 35 [(.tmp 45), (.tmp 46), (.tmp 47), (.tmp 48), (.tmp 49)], none⟩ ::
⟨(some 44), .mv (.tmp 50), none⟩ ::
⟨(some 51), .ext (.tmp 44) 0, none⟩ ::
⟨(some 52), .ext (.tmp 44) 1, none⟩ ::
⟨(some 14), .alloc 24 (List.replicate 32 (.v (.int .u8 0))), none⟩ ::
⟨(some 15), .alloc 24 (List.replicate 32 (.v (.int .u8 0))), none⟩ ::
⟨none, .store 32 (.tmp 14) (.tmp 51), none⟩ ::
⟨none, .store 32 (.tmp 15) (.tmp 52), none⟩ ::
[]))
(.seq
(.draw (
⟨(some 53), .load true 32 (.tmp 14), none⟩ ::
⟨(some 54), .mv (.tmp 0), none⟩ ::
⟨(some 55), .load true 32 (.tmp 15), none⟩ ::
⟨(some 56), .load true 32 (.tmp 12), none⟩ ::
⟨(some 57), .callF 55 [(.tmp 55), (.tmp 56)], none⟩ ::
⟨(some 58), .callF 62 [(.tmp 54), (.tmp 57)], none⟩ ::
⟨none, .store 32 (.tmp 10) (.tmp 53), none⟩ ::
⟨none, .store 32 (.tmp 11) (.tmp 58), none⟩ ::
[])
(⟨0, [], []⟩ :: ⟨1, [], []⟩ :: ⟨2, [], []⟩ :: ⟨3, [], []⟩ :: ⟨4, [], [0]⟩ :: ⟨5, [], [0]⟩ :: ⟨6, [], []⟩ :: ⟨7, [], []⟩ :: []))
.ret))
.skip))
(.seq
(.plain (
⟨(some 60), .mv (.tmp 0), none⟩ ::
⟨(some 61), .load true 32 (.tmp 6), none⟩ ::
⟨(some 62), .mv (.tmp 2), none⟩ ::
⟨(some 63), .mv (.tmp 13), none⟩ ::
⟨(some 64), .bin .sub (.tmp 62) (.tmp 63), none⟩ ::
⟨(some 65), .mv (.tmp 3), none⟩ ::
⟨(some 66), .mv (.tmp 13), none⟩ ::
⟨(some 67), .bin .sub (.tmp 65) (.tmp 66), none⟩ ::
⟨(some 68), .callF 35 [(.tmp 60), (.tmp 61), (.tmp 64), (.tmp 67), (.const (.bool false))], none⟩ ::
⟨(some 59), .mv (.tmp 68), none⟩ ::
⟨(some 69), .ext (.tmp 59) 0, none⟩ ::
⟨(some 70), .ext (.tmp 59) 1, none⟩ ::
⟨(some 16), .alloc 24 (List.replicate 32 (.v (.int .u8 0))), none⟩ ::
⟨(some 17), .alloc 24 (List.replicate 32 (.v (.int .u8 0))), none⟩ ::
⟨none, .store 32 (.tmp 16) (.tmp 69), none⟩ ::
⟨none, .store 32 (.tmp 17) (.tmp 70), none⟩ ::
[]))
(.seq
(.draw (
⟨(some 71), .mv (.tmp 0), none⟩ ::
⟨(some 72), .load true 32 (.tmp 12), none⟩ ::
⟨(some 73), .load true 32 (.tmp 16), none⟩ ::
⟨(some 74), .callF 55 [(.tmp 72), (.tmp 73)], none⟩ ::
⟨(some 75), .callF 62 [(.tmp 71), (.tmp 74)], none⟩ ::
⟨(some 76), .mv (.tmp 0), none⟩ ::
⟨(some 77), .load true 32 (.tmp 12), none⟩ ::
⟨(some 78), .load true 32 (.tmp 17), none⟩ ::
⟨(some 79), .callF 55 [(.tmp 77), (.tmp 78)], none⟩ ::
⟨(some 80), .callF 62 [(.tmp 76), (.tmp 79)], none⟩ ::
⟨none, .store 32 (.tmp 10) (.tmp 75), none⟩ ::
⟨none, .store 32 (.tmp 11) (.tmp 80), none⟩ ::
[])
(⟨0, [], []⟩ :: ⟨1, [], []⟩ :: ⟨2, [], []⟩ :: ⟨5, [], []⟩ :: ⟨6, [], []⟩ :: ⟨7, [], []⟩ :: ⟨3, [], [6, 7]⟩ :: ⟨4, [], [6, 7]⟩ :: ⟨8, [], []⟩ :: ⟨9, [], []⟩ :: ⟨10, [], []⟩ :: ⟨11, [], []⟩ :: []))
.ret))))))))
theorem prep35 : prepFunc Try.prog false 35 = some F35 := by kernel_rfl

-- indenture/history.rest
def F36 : AFunc where
  ntmps := 59
  nparams := 3
  results := [(6, none)]
  code :=
(.seq
(.plain (
⟨(some 6), .mv (.const (.slice none 0 0)), none⟩ ::
[]))
(.seq
(.plain (
⟨(some 8), .mv (.tmp 0), none⟩ ::
⟨(some 9), .len (.tmp 8), none⟩ ::
⟨(some 7), .mv (.tmp 9), none⟩ ::
[]))
(.block 0
(.seq
(.plain (
⟨(some 27), .mv (.tmp 1), none⟩ ::
⟨(some 28), .mv (.tmp 7), none⟩ ::
⟨(some 29), .bin .eql (.tmp 27) (.tmp 28), none⟩ ::
⟨(some 30), .mv (.tmp 29), none⟩ ::
⟨(some 31), .mv (.tmp 2), (some (30, true))⟩ ::
⟨(some 32), .pick (.tmp 30) (.tmp 31) (.const (.bool false)), none⟩ ::
⟨(some 26), .mv (.tmp 32), none⟩ ::
[]))
(.cond (.tmp 26)
(.seq
(.plain (
⟨(some 6), .mv (.const (.slice none 0 0)), none⟩ ::
[]))
.ret)
(.seq
(.plain (
⟨(some 34), .mv (.tmp 1), none⟩ ::
⟨(some 35), .mv (.tmp 7), none⟩ ::
⟨(some 36), .bin .eql (.tmp 34) (.tmp 35), none⟩ ::
⟨(some 33), .mv (.tmp 36), none⟩ ::
[]))
(.cond (.tmp 33)
(.seq
(.plain (
⟨(some 37), .mv (.tmp 0), none⟩ ::
⟨(some 38), .callF 25 [(.tmp 37)], none⟩ ::
⟨(some 39), .bsl 32 [(.tmp 38)], none⟩ ::
⟨(some 6), .mv (.tmp 39), none⟩ ::
[]))
.ret)
(.seq
(.plain (
⟨(some 41), .mv (.tmp 1), none⟩ ::
⟨(some 42), .mv (.tmp 7), none⟩ ::
⟨(some 43), .callF 54 [(.tmp 42)], none⟩ ::
⟨(some 44), .bin .leq (.tmp 41) (.tmp 43), none⟩ ::
⟨(some 40), .mv (.tmp 44), none⟩ ::
[]))
(.cond (.tmp 40)
(.seq
(.plain (
⟨(some 45), .mv (.tmp 0), none⟩ ::
⟨(some 46), .mv (.tmp 7), none⟩ ::
⟨(some 47), .callF 54 [(.tmp 46)], none⟩ ::
⟨(some 48), .slc 32 (.tmp 45) none (some (.tmp 47)), none⟩ ::
⟨(some 49), .mv (.tmp 1), none⟩ ::
⟨(some 50), .mv (.tmp 2), none⟩ ::
⟨(some 51), .callF 36 [(.tmp 48), (.tmp 49), (.tmp 50)], none⟩ ::
⟨(some 52), .mv (.tmp 0), none⟩ ::
⟨(some 53), .mv (.tmp 7), none⟩ ::
⟨(some 54), .callF 54 [(.tmp 53)], none⟩ ::
⟨(some 55), .slc 32 (.tmp 52) (some (.tmp 54)) none, none⟩ ::
⟨(some 56), .callF 25 [(.tmp 55)], none⟩ ::
⟨(some 57), .bsl 32 [(.tmp 56)], none⟩ ::
⟨(some 58), .app 32 32 (.tmp 51) (.tmp 57), none⟩ ::
⟨(some 6), .mv (.tmp 58), none⟩ ::
[]))
.ret)
(.seq
(.draw (
⟨(some 10), .mv (.tmp 0), none⟩ ::
⟨(some 11), .mv (.tmp 7), none⟩ ::
⟨(some 12), .callF 54 [(.tmp 11)], none⟩ ::
⟨(some 13), .slc 32 (.tmp 10) (some (.tmp 12)) none, none⟩ ::
⟨(some 14), .mv (.tmp 1), none⟩ ::
⟨(some 15), .mv (.tmp 7), none⟩ ::
⟨(some 16), .callF 54 [(.tmp 15)], none⟩ ::
⟨(some 17), .bin .sub (.tmp 14) (.tmp 16), none⟩ ::
⟨(some 18), .callF 36 [(.tmp 13), (.tmp 17), (.const (.bool false))], none⟩ ::
⟨(some 19), .mv (.tmp 0), none⟩ ::
⟨(some 20), .mv (.tmp 7), none⟩ ::
⟨(some 21), .callF 54 [(.tmp 20)], none⟩ ::
⟨(some 22), .slc 32 (.tmp 19) none (some (.tmp 21)), none⟩ ::
⟨(some 23), .callF 25 [(.tmp 22)], none⟩ ::
⟨(some 24), .bsl 32 [(.tmp 23)], none⟩ ::
⟨(some 25), .app 32 32 (.tmp 18) (.tmp 24), none⟩ ::
⟨(some 6), .mv (.tmp 25), none⟩ ::
[])
(⟨0, [], []⟩ :: ⟨1, [], []⟩ :: ⟨4, [], []⟩ :: ⟨5, [], []⟩ :: ⟨9, [], []⟩ :: ⟨10, [], []⟩ :: ⟨2, [], []⟩ :: ⟨3, [], []⟩ :: ⟨6, [], []⟩ :: ⟨7, [], []⟩ :: ⟨8, [], []⟩ :: ⟨11, [], []⟩ :: ⟨12, [], []⟩ :: ⟨13, [], []⟩ :: ⟨14, [], []⟩ :: ⟨15, [], []⟩ :: ⟨16, [], []⟩ :: []))
.ret))))))))))
theorem prep36 : prepFunc Try.prog false 36 = some F36 := by kernel_rfl

-- indenture/indentureref22.Sum
def F37 : AFunc where
  ntmps := 6
  nparams := 1
  results := [(2, (some (true, 32)))]
  code :=
(.seq
(.plain (
⟨(some 1), .box 26 (.tmp 0), none⟩ ::
⟨(some 2), .alloc 24 (List.replicate 32 (.v (.int .u8 0))), none⟩ ::
[]))
(.seq
(.plain (
⟨(some 3), .load true 65 (.tmp 1), none⟩ ::
⟨(some 4), .callF 64 [(.tmp 3)], none⟩ ::
⟨(some 5), .callF 63 [(.tmp 4)], none⟩ ::
⟨none, .store 32 (.tmp 2) (.tmp 5), none⟩ ::
[]))
.ret))
theorem prep37 : prepFunc Try.prog true 37 = some F37 := by kernel_rfl

end Go.Proofs.Ytapjikladjoicaa
