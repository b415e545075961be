/- Merged by program from smaller texts; what is proved stands in the last text of the claim. -/
import Derived.Test.YtpbicmjkjihhnaaDoorMC
import Derived.Test.YtpbicmjkjihhnaaDoorMA
import Derived.WalkSmall
set_option linter.all false
/-
  Running abstract code, continued: slices that are built, sliced, read.
-/
namespace Go.Av
open Go

def allLen (k : Nat) (xs : List AV) : Prop := ∀ e ∈ xs, e.cells.length = k
theorem allLen_nil {k : Nat} : allLen k [] = True := by simp [allLen]
theorem allLen_cons {k : Nat} {a : AV} {r : List AV} : allLen k (a :: r) = (a.cells.length = k ∧ allLen k r) := by simp [allLen]
theorem allLen_append {k : Nat} {a r : List AV} : allLen k (a ++ r) = (allLen k a ∧ allLen k r) := by
  apply propext; simp only [allLen, List.mem_append]; constructor
  · exact fun h => ⟨fun e he => h e (.inl he), fun e he => h e (.inr he)⟩
  · rintro ⟨h1, h2⟩ e (he | he); exact h1 e he; exact h2 e he
theorem allLen_bytes {bs : List UInt8} : allLen 1 (bs.map byteAV) = True := by
  simp [allLen, byteAV, AV.cells]
theorem allLen_map {α : Type} {k : Nat} {g : α → AV} (h : ∀ x, (g x).cells.length = k) (l : List α) : allLen k (l.map g) = True := by
  simp [allLen, h]
theorem allLen_take {k n : Nat} {xs : List AV} (h : allLen k xs) : allLen k (xs.take n) := fun e he => h e (List.mem_of_mem_take he)
theorem allLen_drop {k n : Nat} {xs : List AV} (h : allLen k xs) : allLen k (xs.drop n) := fun e he => h e (List.mem_of_mem_drop he)

/-- a slice that is being built, over the objects s0 -/
def Owned (s0 s : Hp) (k : Nat) (xs : List AV) (o : Own) : Prop :=
  s0.sub s ∧ match o with
    | .buf g c => s0 g = none ∧ s g = some (.buf k xs.length c)
    | .any => False
    | _ => xs = []

variable {P : Ctx} {f : Fr} {s s0 : Hp} {Kv : AV → Hp → Prop}

theorem Hp.sub_trans {a b c : Hp} (h : a.sub b) (h2 : b.sub c) : a.sub c := fun l o hl => h2 l o (h l o hl)
theorem Hp.sub_none {a b : Hp} (h : a.sub b) {l : Nat} (hl : b l = none) : a l = none := by
  cases ha : a l with
  | none => rfl
  | some o => rw [h l o ha] at hl; cases hl

theorem Owned.nil (h : s0.sub s) {k : Nat} : Owned s0 s k [] .nil := ⟨h, rfl⟩
theorem Owned.zero (h : s0.sub s) {k : Nat} : Owned s0 s k [] .zero := ⟨h, rfl⟩
theorem Owned.sub {k : Nat} {xs : List AV} {o : Own} (h : Owned s0 s k xs o) : s0.sub s := h.1
theorem Owned.base {s1 : Hp} {k : Nat} {xs : List AV} {o : Own} (h : Owned s0 s k xs o) (hs : s1.sub s0) : Owned s1 s k xs o := by
  refine ⟨Hp.sub_trans hs h.1, ?_⟩
  have h2 := h.2
  cases o with
  | buf g c => exact ⟨Hp.sub_none hs h2.1, h2.2⟩
  | _ => exact h2
theorem Owned.mono {s' : Hp} {k : Nat} {xs : List AV} {o : Own} (h : Owned s0 s k xs o) (hs : s.sub s') : Owned s0 s' k xs o := by
  refine ⟨Hp.sub_trans h.1 hs, ?_⟩
  have h2 := h.2
  cases o with
  | buf g c => exact ⟨h2.1, hs _ _ h2.2⟩
  | _ => exact h2
/-- other objects are written -/
theorem Owned.set {k l : Nat} {xs : List AV} {o : Own} {ob ob' : Ob} (h : Owned s0 s k xs o) (hl : s0 l = some ob') : Owned (s0.set l ob) (s.set l ob) k xs o := by
  refine ⟨Hp.sub_set h.1, ?_⟩
  have h2 := h.2
  cases o with
  | buf g c =>
    have hne : g ≠ l := by rintro rfl; rw [h2.1] at hl; cases hl
    exact ⟨by rw [Hp.set_ne _ _ hne]; exact h2.1, by rw [Hp.set_ne _ _ hne]; exact h2.2⟩
  | _ => exact h2
/-- a new object -/
theorem Owned.new {k l : Nat} {xs : List AV} {o : Own} {ob : Ob} (h : Owned s0 s k xs o) (hl : s l = none) : Owned (s0.set l ob) (s.set l ob) k xs o := by
  refine ⟨Hp.sub_set h.1, ?_⟩
  have h2 := h.2
  cases o with
  | buf g c =>
    have hne : g ≠ l := by rintro rfl; rw [h2.2] at hl; cases hl
    exact ⟨by rw [Hp.set_ne _ _ hne]; exact h2.1, by rw [Hp.set_ne _ _ hne]; exact h2.2⟩
  | _ => exact h2

def appK (k bytes : Nat) (s : Hp) (x y : AV) (C : AV → Hp → Prop) : Prop :=
  match x, y with
  | .sl xs o, .sl ys _ => (∀ e ∈ xs, e.cells.length = k) ∧ (∀ e ∈ ys, e.cells.length = k) ∧ (xs.length + ys.length) * bytes ≤ 140737488355328 ∧ xs.length + ys.length ≤ 9223372036854775807 ∧
      match o with
      | .buf g c => s g = some (.buf k xs.length c) ∧ ∀ g' c', (g' = g ∨ s g' = none) → C (.sl (xs ++ ys) (.buf g' c')) ((s.del g).set g' (.buf k (xs.length + ys.length) c'))
      | .any => False
      | _ => xs = [] ∧ (if ys = [] then C (.sl [] o) s else ∀ g' c', s g' = none → C (.sl ys (.buf g' c')) (s.set g' (.buf k ys.length c')))
  | _, _ => False
theorem G_app {k bytes : Nat} {x y : Operand} : G P (.app k bytes x y) f s Kv = appK k bytes s (ev f x) (ev f y) (hid2 Kv ()) := rfl

/-- APPEND -/
theorem app_own {k bytes : Nat} {xs ys : List AV} {o o2 : Own} {C : AV → Hp → Prop} {d : Dep C} (h : Owned s0 s k xs o) (h1 : allLen k xs) (h2 : allLen k ys) (h3 : (xs.length + ys.length) * bytes ≤ 140737488355328) (h4 : xs.length + ys.length ≤ 9223372036854775807)
    (hk : ∀ o' s', Owned s0 s' k (xs ++ ys) o' → C (.sl (xs ++ ys) o') s') : appK k bytes s (.sl xs o) (.sl ys o2) (hid2 C d) := by
  have ho := h.2
  refine ⟨h1, h2, h3, h4, ?_⟩
  cases o with
  | any => exact ho.elim
  | nil =>
    obtain rfl : xs = [] := ho
    refine ⟨rfl, ?_⟩
    split
    · rename_i hy; subst hy; exact hk _ _ ⟨h.1, rfl⟩
    · intro g' c' hg'
      refine hk _ _ ⟨Hp.sub_new h.1 (Hp.sub_none h.1 hg'), Hp.sub_none h.1 hg', ?_⟩
      rw [Hp.set_same]; simp
  | zero =>
    obtain rfl : xs = [] := ho
    refine ⟨rfl, ?_⟩
    split
    · rename_i hy; subst hy; exact hk _ _ ⟨h.1, rfl⟩
    · intro g' c' hg'
      refine hk _ _ ⟨Hp.sub_new h.1 (Hp.sub_none h.1 hg'), Hp.sub_none h.1 hg', ?_⟩
      rw [Hp.set_same]; simp
  | buf g c =>
    refine ⟨ho.2, fun g' c' hg' => hk _ _ ?_⟩
    have hb : s0 g' = none := by rcases hg' with rfl | hg'; exact ho.1; exact Hp.sub_none h.1 hg'
    refine ⟨Hp.sub_new (fun l ob hl => ?_) hb, hb, ?_⟩
    · have hne : l ≠ g := by rintro rfl; rw [ho.1] at hl; cases hl
      rw [Hp.del_ne _ hne]; exact h.1 l ob hl
    · rw [Hp.set_same, List.length_append]

def bslK (k : Nat) (s : Hp) (vs0 : List AV) (C : AV → Hp → Prop) : Prop :=
  (∀ e ∈ vs0, e.cells.length = k) ∧ (if vs0.length = 0 then C (.sl [] .zero) s else ∀ g, s g = none → C (.sl vs0 (.buf g vs0.length)) (s.set g (.buf k vs0.length vs0.length)))
theorem G_bsl {k : Nat} {xs : List Operand} : G P (.bsl k xs) f s Kv = bslK k s (xs.map (ev f)) (hid2 Kv ()) := by
  simp only [G, bslK, hid2, List.length_map]
/-- A NEW SLICE -/
theorem bsl_own {k : Nat} {vs0 : List AV} {C : AV → Hp → Prop} {d : Dep C} (h : s0.sub s) (h1 : allLen k vs0) (hk : ∀ o' s', Owned s0 s' k vs0 o' → C (.sl vs0 o') s') : bslK k s vs0 (hid2 C d) := by
  refine ⟨h1, ?_⟩
  split
  · rename_i h0
    obtain rfl := List.eq_nil_of_length_eq_zero h0
    exact hk _ _ ⟨h, rfl⟩
  · intro g hg
    exact hk _ _ ⟨Hp.sub_new h (Hp.sub_none h hg), Hp.sub_none h hg, by rw [Hp.set_same]⟩

def bO (x : Option AV) (d : Nat) : Option Int :=
  match x with
  | none => some d
  | some a => intOf a
def kp (o : Own) (lo hi : Option AV) : Own :=
  match lo, hi with
  | none, none => o
  | _, _ => .any
def slcAA (k : Nat) (a : AV) (lo hi : Option AV) : Option AV :=
  match a with
  | .sl xs o => match bO lo 0, bO hi xs.length with
    | some a, some b => if 0 ≤ a ∧ a ≤ b ∧ b ≤ xs.length ∧ xs.all (fun e => decide (e.cells.length = k)) then some (.sl ((xs.take b.toNat).drop a.toNat) (kp o lo hi)) else none
    | _, _ => none
  | .msl l off len k' => match bO lo 0, bO hi len with
    | some a, some b => if k' = k ∧ 0 ≤ a ∧ a ≤ b ∧ b ≤ len ∧ a < len then some (.msl l (off + a.toNat * k) (b.toNat - a.toNat) k) else none
    | _, _ => none
  | .mb l len cap k' => match bO lo 0, bO hi len with
    | some a, some b => if k' = k ∧ 0 ≤ a ∧ a ≤ b ∧ b ≤ len ∧ (lo.isSome = true → a < len) then some (mbCut lo.isSome l a.toNat b.toNat cap k) else none
    | _, _ => none
  | _ => none
theorem bnd_bO (x : Option Operand) (d : Nat) : bnd f x d = bO (x.map (ev f)) d := by
  cases x with
  | none => rfl
  | some x => simp only [bnd, bO, Option.map_some, intOf]; split <;> simp_all
theorem kp_map {o : Own} (lo hi : Option Operand) : SlKeep o lo hi = kp o (lo.map (ev f)) (hi.map (ev f)) := by cases lo <;> cases hi <;> rfl
theorem G_slcA {k : Nat} {x : Operand} {lo hi : Option Operand} : G P (.slc k x lo hi) f s Kv = valK (slcAA k (ev f x) (lo.map (ev f)) (hi.map (ev f))) (hid1 (fun r => Kv r s) ()) := by
  have e : lo.isSome = (lo.map (ev f)).isSome := by cases lo <;> rfl
  simp only [G, slcAA, bnd_bO, kp_map (f := f) lo hi, e]
  generalize ev f x = a; generalize lo.map (ev f) = p; generalize hi.map (ev f) = q
  cases a <;> try rfl
  · rename_i xs o
    simp only []
    generalize bO p 0 = u; generalize bO q xs.length = w
    cases u <;> cases w <;> try rfl
    simp only [valK_ite, hid1_eq, List.all_eq_true, decide_eq_true_eq]
    apply propext; constructor
    · rintro ⟨h1, h2, h3, h4, h5⟩; exact ⟨⟨h1, h2, h3, h4⟩, h5⟩
    · rintro ⟨⟨h1, h2, h3, h4⟩, h5⟩; exact ⟨h1, h2, h3, h4, h5⟩
  · rename_i l off len k'
    simp only []
    generalize bO p 0 = u; generalize bO q len = w
    cases u <;> cases w <;> try rfl
    simp only [valK_ite, hid1_eq]
    apply propext; constructor
    · rintro ⟨h0, h1, h2, h3, h4, h5⟩; exact ⟨⟨h0, h1, h2, h3, h4⟩, h5⟩
    · rintro ⟨⟨h0, h1, h2, h3, h4⟩, h5⟩; exact ⟨h0, h1, h2, h3, h4, h5⟩
  · rename_i l len cap k'
    simp only []
    generalize bO p 0 = u; generalize bO q len = w
    cases u <;> cases w <;> try rfl
    simp only [valK_ite, hid1_eq]
    apply propext; constructor
    · rintro ⟨h0, h1, h2, h3, h4, h5⟩; exact ⟨⟨h0, h1, h2, h3, h4⟩, h5⟩
    · rintro ⟨⟨h0, h1, h2, h3, h4⟩, h5⟩; exact ⟨h0, h1, h2, h3, h4, h5⟩
theorem slcAA_mb {k l len cap : Nat} {kd : IntKind} {b : Int} (h : 0 ≤ b) (h2 : b ≤ len) : slcAA k (.mb l len cap k) none (some (.v (.int kd b))) = some (.mb l b.toNat cap k) := by
  simp [slcAA, bO, intOf, h, h2, mbCut]
theorem slcAA_all {k : Nat} {xs : List AV} {o : Own} (h : allLen k xs) : slcAA k (.sl xs o) none none = some (.sl xs o) := by
  have : (xs.all fun e => decide (e.cells.length = k)) = true := by simpa [allLen] using h
  simp [slcAA, bO, kp, this]
theorem slcAA_lo {k : Nat} {xs : List AV} {o : Own} {kd : IntKind} {a : Int} (h : 0 ≤ a) (h2 : a ≤ xs.length) (h3 : allLen k xs) : slcAA k (.sl xs o) (some (.v (.int kd a))) none = some (.sl (xs.drop a.toNat) .any) := by
  have : (xs.all fun e => decide (e.cells.length = k)) = true := by simpa [allLen] using h3
  simp [slcAA, bO, kp, intOf, this, h, h2]
theorem slcAA_hi {k : Nat} {xs : List AV} {o : Own} {kd : IntKind} {b : Int} (h : 0 ≤ b) (h2 : b ≤ xs.length) (h3 : allLen k xs) : slcAA k (.sl xs o) none (some (.v (.int kd b))) = some (.sl (xs.take b.toNat) .any) := by
  have : (xs.all fun e => decide (e.cells.length = k)) = true := by simpa [allLen] using h3
  simp [slcAA, bO, kp, intOf, this, h, h2]
theorem slcAA_both {k : Nat} {xs : List AV} {o : Own} {kd kd' : IntKind} {a b : Int} (h : 0 ≤ a) (h1 : a ≤ b) (h2 : b ≤ xs.length) (h3 : allLen k xs) : slcAA k (.sl xs o) (some (.v (.int kd a))) (some (.v (.int kd' b))) = some (.sl ((xs.take b.toNat).drop a.toNat) .any) := by
  have : (xs.all fun e => decide (e.cells.length = k)) = true := by simpa [allLen] using h3
  simp [slcAA, bO, kp, intOf, this, h, h1, h2]

def eqvK (neg : Bool) (ks : List (Nat × CK)) (a b : AV) (C : AV → Prop) : Prop :=
  match a, b with
  | .agg cs, .agg ds => fitR ks cs ∧ fitR ks ds ∧ C (.v (.bool (xor neg (peq (.agg cs) (.agg ds)))))
  | _, _ => False
theorem G_eqvK {neg : Bool} {ks : List (Nat × CK)} {x y : Operand} : G P (.eqv neg ks x y) f s Kv = eqvK neg ks (ev f x) (ev f y) (hid1 (fun r => Kv r s) ()) := rfl
theorem eqvK_agg {neg : Bool} {ks : List (Nat × CK)} {cs ds : List AV} {C : AV → Prop} : eqvK neg ks (.agg cs) (.agg ds) C = andK (fitR ks cs ∧ fitR ks ds) (hidP (C (.v (.bool (xor neg (peq (.agg cs) (.agg ds)))))) ()) := by
  simp only [eqvK, andK, hidP]; exact propext and_assoc.symm

theorem mapb_drop {bs : List UInt8} {n : Nat} : (bs.map byteAV).drop n = (bs.drop n).map byteAV := by rw [List.map_drop]
theorem mapb_take {bs : List UInt8} {n : Nat} : (bs.map byteAV).take n = (bs.take n).map byteAV := by rw [List.map_take]
theorem mapb_app {bs cs : List UInt8} : bs.map byteAV ++ cs.map byteAV = (bs ++ cs).map byteAV := by rw [List.map_append]
theorem byte_fold {b : UInt8} : (.v (.int .u8 b.toNat) : AV) = byteAV b := rfl
theorem Owned.nilB (h : s0.sub s) : Owned s0 s 1 (([] : List UInt8).map byteAV) .nil := ⟨h, rfl⟩
theorem Owned.zeroB (h : s0.sub s) : Owned s0 s 1 (([] : List UInt8).map byteAV) .zero := ⟨h, rfl⟩
/-- bytes are appended -/
theorem app_bytes {xs ys : List UInt8} {o o2 : Own} {C : AV → Hp → Prop} {d : Dep C} (h : Owned s0 s 1 (xs.map byteAV) o) (h3 : xs.length + ys.length ≤ 140737488355328)
    (hk : ∀ o' s', Owned s0 s' 1 ((xs ++ ys).map byteAV) o' → C (.sl ((xs ++ ys).map byteAV) o') s') : appK 1 1 s (.sl (xs.map byteAV) o) (.sl (ys.map byteAV) o2) (hid2 C d) := by
  refine app_own h (by rw [allLen_bytes]; trivial) (by rw [allLen_bytes]; trivial) (by simp; omega) (by simp; omega) ?_
  rw [mapb_app]; exact hk
theorem app_byte1 {xs : List UInt8} {b : UInt8} {o o2 : Own} {C : AV → Hp → Prop} {d : Dep C} (h : Owned s0 s 1 (xs.map byteAV) o) (h3 : xs.length + 1 ≤ 140737488355328)
    (hk : ∀ o' s', Owned s0 s' 1 ((xs ++ [b]).map byteAV) o' → C (.sl ((xs ++ [b]).map byteAV) o') s') : appK 1 1 s (.sl (xs.map byteAV) o) (.sl [byteAV b] o2) (hid2 C d) :=
  app_bytes (ys := [b]) h h3 hk
theorem bsl_byte {b : UInt8} {C : AV → Hp → Prop} {d : Dep C} (h : s0.sub s) (hk : ∀ o' s', Owned s0 s' 1 [byteAV b] o' → C (.sl [byteAV b] o') s') : bslK 1 s [.v (.int .u8 b.toNat)] (hid2 C d) :=
  bsl_own (vs0 := [b].map byteAV) h (by rw [allLen_bytes]; trivial) hk
theorem getB {bs : List UInt8} {i : Nat} (h : i < bs.length) : (bs.map byteAV)[i]? = some (.v (.int .u8 (bs.getD i 0).toNat)) := by
  rw [List.getElem?_map, List.getElem?_eq_getElem h]
  have : bs.getD i 0 = bs[i] := by simp [List.getD, h]
  rw [this]; rfl

theorem runL_mono {Kf Kf' : Fr → Hp → Prop} (h : ∀ f s, Kf f s → Kf' f s) : ∀ (ops : List AOper) (f : Fr) (s : Hp), runL P ops Kf f s → runL P ops Kf' f s
  | [], f, s, hh => h f s hh
  | _ :: r, f, s, hh => T_mono (fun f s hh => runL_mono h r f s hh) hh
theorem can_mono {xs : Nat → AOper} {Kf Kf' : Fr → Hp → Prop} (h : ∀ f s, Kf f s → Kf' f s) : ∀ (l : List CO) (f : Fr) (s : Hp), can P xs Kf l f s → can P xs Kf' l f s
  | [], f, s, hh => h f s hh
  | _ :: r, f, s, hh => ⟨hh.1, T_mono (fun f s hh => ⟨hh.1, can_mono h r f s hh.2⟩) hh.2⟩
theorem awp_mono : ∀ (c : ACode) {K K' : Ex → Fr → Hp → Prop} (_ : ∀ e f s, K e f s → K' e f s) (f : Fr) (s : Hp), awp P c K f s → awp P c K' f s
  | .skip, _, _, h, f, s, hh => h _ f s hh
  | .ret, _, _, h, f, s, hh => h _ f s hh
  | .exit _, _, _, h, f, s, hh => h _ f s hh
  | .plain ops, _, _, h, f, s, hh => runL_mono (h _) ops f s hh
  | .draw _ l, _, _, h, f, s, hh => can_mono (h _) l f s hh
  | .seq a b, K, K', h, f, s, hh => awp_mono a (fun e f s hh => by
      cases e with
      | norm => exact awp_mono b h f s hh
      | exit i => exact h _ f s hh
      | ret => exact h _ f s hh) f s hh
  | .block i a, K, K', h, f, s, hh => awp_mono a (fun e f s hh => by
      cases e with
      | norm => exact h _ f s hh
      | exit j => simp only [blockK] at hh ⊢; split <;> (rename_i hj; simp only [hj, if_true, if_false] at hh; exact h _ f s hh)
      | ret => exact h _ f s hh) f s hh
  | .cond c a b, K, K', h, f, s, hh => by
      simp only [awp_cond, hidP_eq, condK] at hh ⊢
      split at hh
      · exact ⟨fun ht => awp_mono a h f s (hh.1 ht), fun ht => awp_mono b h f s (hh.2 ht)⟩
      · exact hh.elim
  | .loop a, K, K', h, f, s, hh => by
      obtain ⟨I, m, h0, hr⟩ := hh
      exact ⟨I, m, h0, fun f s hI => awp_mono a (fun e f s hh => by
        cases e with
        | norm => exact hh
        | exit i => exact h _ f s hh
        | ret => exact h _ f s hh) f s (hr f s hI)⟩

/-- both arms go on alike -/
theorem cond_join {K : Ex → Fr → Hp → Prop} {a b c : ACode} {t : Bool} {d : Dep (awp P a (seqK (awp P c K) K) f s)} {d' : Dep (awp P b (seqK (awp P c K) K) f s)} (Q : Fr → Hp → Prop)
    (ht : t = true → awp P a (seqK Q K) f s) (hf : t = false → awp P b (seqK Q K) f s) (hQ : ∀ f s, Q f s → awp P c K f s) :
    condK (.v (.bool t)) (hidP (awp P a (seqK (awp P c K) K) f s) d) (hidP (awp P b (seqK (awp P c K) K) f s) d') := by
  have hm : ∀ e f s, seqK Q K e f s → seqK (awp P c K) K e f s := fun e f s h => by
    cases e with
    | norm => exact hQ f s h
    | exit i => exact h
    | ret => exact h
  exact ⟨fun h => awp_mono a hm f s (ht h), fun h => awp_mono b hm f s (hf h)⟩

def idxSA (a i : AV) : Option AV :=
  match a, i with
  | .v (.string t), .v (.int _ n) => if 0 ≤ n then (match t.data[n.toNat]? with | some b => some (.v (.int .u8 b.toNat)) | none => none) else none
  | _, _ => none
theorem G_idxS {x i : Operand} : G P (.idxS x i) f s Kv = valK (idxSA (ev f x) (ev f i)) (hid1 (fun r => Kv r s) ()) := by
  simp only [G, idxSA]; generalize ev f x = a; generalize ev f i = b
  cases a <;> first
    | rfl
    | (rename_i v; cases v <;> first
        | rfl
        | (cases b <;> first
            | rfl
            | (rename_i t w; cases w <;> first
                | rfl
                | (rename_i kd n; simp only []; by_cases h : 0 ≤ n
                   · simp only [h, true_and, if_true]; generalize t.data[n.toNat]? = c; cases c <;> rfl
                   · simp [h, valK]))))
/-- the mutable view of a box that is sliced whole, and only read -/
def slcRA (k n : Nat) (s : Hp) (a : AV) : Option AV :=
  match a with
  | .ptr l off => match s l with
    | some (.ro cs) => if off + n * k ≤ cs.length then some (.sl (elemsOf k n (cs.drop off)) .any) else none
    | _ => none
  | _ => none
theorem G_slcR {k n : Nat} {x : Operand} : G P (.slcR k n x none none) f s Kv = valK (slcRA k n s (ev f x)) (hid1 (fun r => Kv r s) ()) := by
  simp only [G, slcRA, bnd]; generalize ev f x = a
  cases a <;> first
    | rfl
    | (rename_i l off; simp only []
       generalize s l = c
       cases c with
       | none => simp [valK]
       | some o => cases o with
         | ro cs => simp only [valK_ite, hid1_eq]; simp
         | _ => simp [valK])
theorem slcRA_one {n l : Nat} {cs : List AV} (h : s l = some (.ro cs)) (h2 : cs.length = n) : slcRA 1 n s (.ptr l 0) = some (.sl cs .any) := by
  simp [slcRA, h, h2, elemsOf, List.take_of_length_le]
theorem shl_i64 {a : Int} {k : IntKind} {n : Nat} (h : n < 64) : binV .shl (.int .i64 a) (.int k (n : Int)) = some (.int .i64 (IntKind.i64.wrap (a * 2 ^ n))) := by
  have e : min n IntKind.i64.bits = n := by simp [IntKind.bits]; omega
  simp only [binV, isShift, if_true, shiftInt, if_neg (show ¬ (n : Int) < 0 by omega), Int.toNat_natCast, e]
def tup2 (a b : Option AV) : Option AV :=
  match a, b with
  | some a, some b => some (.tup [a, b])
  | _, _ => none
theorem tup2_some {a b : AV} : tup2 (some a) (some b) = some (.tup [a, b]) := rfl
theorem resAll2 {p q : Nat × Option (Bool × Nat)} : resAll f s [p, q] = tup2 (resG f s p) (resG f s q) := by
  simp only [resAll, mapAll]; cases resG f s p <;> cases resG f s q <;> rfl
def tup3 (a b c : Option AV) : Option AV :=
  match a, b, c with
  | some a, some b, some c => some (.tup [a, b, c])
  | _, _, _ => none
theorem tup3_some {a b c : AV} : tup3 (some a) (some b) (some c) = some (.tup [a, b, c]) := rfl
theorem resAll3 {p q r : Nat × Option (Bool × Nat)} : resAll f s [p, q, r] = tup3 (resG f s p) (resG f s q) (resG f s r) := by
  simp only [resAll, mapAll]; cases resG f s p <;> cases resG f s q <;> cases resG f s r <;> rfl
theorem cast0 : ((0 : Nat) : Int) = 0 := rfl
theorem cast1 : ((1 : Nat) : Int) = 1 := rfl
theorem tmod_nat {m k : Nat} : ((m : Int).tmod (k : Int)) = ((m % k : Nat) : Int) := rfl
theorem tmod64 {m : Nat} : ((m : Int).tmod 64) = ((m % 64 : Nat) : Int) := tmod_nat (k := 64)
/-! bundles of the lemmas above, for 'simp' -/
def rD :=
  And.intro @awp_skip <|
  And.intro @awp_ret <|
  And.intro @awp_exit <|
  And.intro @awp_seq <|
  And.intro @awp_block <|
  And.intro @awp_plain <|
  And.intro @awp_draw <|
  And.intro @awp_cond <|
  And.intro @awp_loopK <|
  And.intro @hid1_eq <|
  And.intro @hid2_eq <|
  And.intro @seqK_norm <|
  And.intro @seqK_ret <|
  And.intro @seqK_exit <|
  And.intro @blockK_norm <|
  And.intro @blockK_ret <|
  And.intro @blockK_same <|
  And.intro @blockK_exit <|
  And.intro @runL_nil <|
  And.intro @runL_cons <|
  And.intro @runL_guard <|
  And.intro @can_nil <|
  And.intro @can_cons <|
  And.intro @can_pre <|
  And.intro @can_chk <|
  And.intro @chkL_nil <|
  And.intro @chkL_cons <|
  And.intro @Def_none <|
  And.intro @chkT_none <|
  And.intro @T_none <|
  And.intro @T_guard <|
  And.intro @nth_zero <|
  And.intro @nth_succ <|
  And.intro @G_mv <|
  And.intro @G_pick <|
  And.intro @G_alloc <|
  And.intro @G_box <|
  And.intro @G_boxR <|
  And.intro @G_load <|
  And.intro @G_store <|
  And.intro @G_nilc <|
  And.intro @G_fa <|
  And.intro @G_iaA <|
  And.intro @G_iaS <|
  And.intro @G_fld <|
  And.intro @G_idxA <|
  And.intro @G_bld <|
  And.intro @G_len <|
  And.intro @G_lenA <|
  And.intro @G_bin <|
  And.intro @G_un <|
  And.intro @G_cvt <|
  And.intro @G_callF <|
  And.intro @G_ext <|
  And.intro @G_app <|
  And.intro @G_bsl <|
  And.intro @G_slcA <|
  And.intro @G_idxS <|
  And.intro @G_slcR <|
  And.intro @G_eqvK <|
  And.intro @G_eqb <|
  And.intro @G_eqp <|
  And.intro @putF_get <|
  And.intro @putF_none <|
  And.intro @initF_get <|
  And.intro @bldK_nil <|
  And.intro @bldK_cons <|
  And.intro @postR_ret <|
  @postR_norm
def rU :=
  And.intro @condK_true <|
  And.intro @condK_false <|
  And.intro @guardK_tt <|
  And.intro @guardK_ff <|
  And.intro @guardK_tf <|
  And.intro @guardK_ft <|
  And.intro @guardK_no <|
  And.intro @newK_true <|
  And.intro @eq_self.{1} <|
  And.intro @tK_eq <|
  And.intro @List.getD_cons_zero.{0} <|
  And.intro @List.getD_cons_succ.{0} <|
  And.intro @eqvK_agg <|
  And.intro @Option.map_none.{0,0} <|
  And.intro @slcAA_all <|
  And.intro @slcAA_lo <|
  And.intro @slcAA_hi <|
  And.intro @slcAA_both <|
  And.intro @mapb_drop <|
  And.intro @mapb_take <|
  And.intro @valK_some <|
  And.intro @letK_eq <|
  And.intro @cellK_some <|
  And.intro @andK_true <|
  And.intro @andK_ok <|
  And.intro @pickA_true <|
  And.intro @pickA_false <|
  And.intro @loadA_ptr <|
  And.intro @loadA_rptr <|
  And.intro @rdA_some <|
  And.intro @storeK_ptr <|
  And.intro @nilcA_ptr <|
  And.intro @nilcA_rptr <|
  And.intro @faA_ptr <|
  And.intro @faA_rptr <|
  And.intro @iaAA_ptr <|
  And.intro @iaAA_rptr <|
  And.intro @iaSA_bytes <|
  And.intro @iaSA_msl <|
  And.intro @elA_some <|
  And.intro @fldA_agg <|
  And.intro @idxAA_agg <|
  And.intro @lenAA_sl <|
  And.intro @lenAA_msl <|
  And.intro @binA_v <|
  And.intro @unA_v <|
  And.intro @cvtA_int <|
  And.intro @extA_tup <|
  And.intro @eqbA_b <|
  And.intro @eqpA_ptr <|
  And.intro @eqpA_rptr <|
  And.intro @eqpA_nil <|
  And.intro @Option.map_some.{0,0} <|
  And.intro @resAll_one <|
  And.intro @resG_tmp <|
  And.intro @resAll_none <|
  And.intro @resG_ptr <|
  And.intro @resP_ptr <|
  And.intro @putAt_all <|
  And.intro @List.map_cons.{0,0} <|
  And.intro @List.map_nil.{0,0} <|
  And.intro @add_i64 <|
  And.intro @sub_i64 <|
  And.intro @mul_i64 <|
  And.intro @quo_i64 <|
  And.intro @rem_i64 <|
  And.intro @eql_int <|
  And.intro @neq_int <|
  And.intro @lss_int <|
  And.intro @leq_int <|
  And.intro @gtr_int <|
  And.intro @geq_int <|
  And.intro @not_bool <|
  And.intro @add_u32 <|
  And.intro @sub_u32 <|
  And.intro @mul_u32 <|
  And.intro @and_u32 <|
  And.intro @or_u32 <|
  And.intro @xor_u32 <|
  And.intro @com_u32 <|
  And.intro @shl_u32 <|
  And.intro @shr_u32 <|
  And.intro @wrap_i64 <|
  And.intro @wrap_u32_8 <|
  And.intro @wrap_u64_8 <|
  And.intro @wrap_u8_32 <|
  And.intro @wrap_u8_64 <|
  And.intro @add_u64 <|
  And.intro @sub_u64 <|
  And.intro @mul_u64 <|
  And.intro @shr_u64 <|
  And.intro @wrap_u64 <|
  And.intro @mkv_one <|
  And.intro @mkv_agg <|
  And.intro @List.length_map.{0,0} <|
  And.intro @List.length_cons.{0} <|
  And.intro @List.length_nil.{0} <|
  And.intro @Hp.read_set_same <|
  And.intro @Hp.read_set_ro <|
  And.intro @Hp.read_set_ne <|
  And.intro @Hp.stA_set_same <|
  And.intro @Hp.stA_set_ne <|
  And.intro @Hp.set_set <|
  And.intro @Hp.set_in1 <|
  And.intro @Hp.set_in2 <|
  And.intro @Hp.set_in3 <|
  And.intro @Hp.set_in4 <|
  And.intro @Hp.set_in5 <|
  And.intro @Hp.set_in6 <|
  And.intro @Hp.set_in7 <|
  And.intro @Hp.set_in8 <|
  And.intro @cells_sl <|
  And.intro @cells_v <|
  And.intro @cells_ptr <|
  And.intro @cells_rptr <|
  And.intro @cells_iface <|
  And.intro @cells_agg <|
  And.intro @List.drop_zero.{0} <|
  And.intro @and_self <|
  And.intro @Nat.zero_add <|
  And.intro @Nat.mul_one <|
  And.intro @Nat.one_mul <|
  And.intro @Int.toNat_natCast <|
  And.intro @true_and <|
  And.intro @and_true <|
  And.intro @Nat.add_zero <|
  And.intro @Nat.le_refl <|
  And.intro @dec_t <|
  @dec_f
def rX :=
  And.intro @cast0 <|
  And.intro @cast1 <|
  And.intro @resAll2 <|
  And.intro @tup2_some <|
  And.intro @resAll3 <|
  @tup3_some
def rL :=
  And.intro @List.length_cons.{0} <|
  And.intro @List.length_nil.{0} <|
  And.intro @List.length_map.{0,0} <|
  And.intro @List.length_append.{0} <|
  And.intro @List.length_replicate.{0} <|
  And.intro @List.length_range <|
  And.intro @List.length_take.{0} <|
  And.intro @List.length_drop.{0} <|
  And.intro @cells_sl <|
  And.intro @cells_v <|
  And.intro @cells_ptr <|
  And.intro @cells_rptr <|
  And.intro @cells_iface <|
  And.intro @cells_agg <|
  And.intro @allLen_bytes <|
  And.intro @allLen_nil <|
  And.intro @allLen_cons <|
  And.intro @allLen_append <|
  And.intro @and_true <|
  And.intro @true_and <|
  And.intro @Nat.zero_add <|
  And.intro @eq_self.{1} <|
  @and_self
end Go.Av
/-
  Running abstract code, continued: strings as lists of bytes, min and max, copies.
-/
namespace Go.Av
open Go

/-- a string -/
def strV (bs : List UInt8) : AV := .v (.string ⟨bs.toArray⟩)
theorem toList_loop (b : ByteArray) : ∀ (n i : Nat) (r : List UInt8), b.size - i = n → ByteArray.toList.loop b i r = r.reverse ++ b.data.toList.drop i
  | 0, i, r, h => by
    rw [ByteArray.toList.loop, if_neg (by omega), List.drop_of_length_le (by simp; exact Nat.le_of_sub_eq_zero h)]; simp
  | n + 1, i, r, h => by
    have hi : i < b.size := by omega
    have hi' : i < b.data.toList.length := by simpa using hi
    rw [ByteArray.toList.loop, if_pos hi, toList_loop b n (i + 1) _ (by omega), List.drop_eq_getElem_cons hi']
    have : b.get! i = b.data.toList[i] := by
      rw [ByteArray.get!]
      simp [hi]
    rw [this]; simp
theorem toList_data (b : ByteArray) : b.toList = b.data.toList := by
  rw [ByteArray.toList, toList_loop b _ 0 [] rfl]; simp
theorem toList_mk (bs : List UInt8) : (⟨bs.toArray⟩ : ByteArray).toList = bs := by rw [toList_data]
theorem eql_str (a b : List UInt8) : binV .eql (.string ⟨a.toArray⟩) (.string ⟨b.toArray⟩) = some (.bool (decide (a = b))) := by
  simp only [binV, binStr, toList_mk]; congr 2
  by_cases h : a = b <;> simp [h]
theorem neq_str (a b : List UInt8) : binV .neq (.string ⟨a.toArray⟩) (.string ⟨b.toArray⟩) = some (.bool (decide (a ≠ b))) := by
  simp only [binV, binStr, toList_mk]; congr 2
  by_cases h : a = b <;> simp [h]
theorem size_str (a : List UInt8) : (⟨a.toArray⟩ : ByteArray).size = a.length := by simp [ByteArray.size]
theorem append_str (a b : List UInt8) : ((⟨a.toArray⟩ : ByteArray) ++ ⟨b.toArray⟩) = ⟨(a ++ b).toArray⟩ := by
  apply ByteArray.ext; simp
theorem add_str (a b : List UInt8) (h : a.length + b.length ≤ 9223372036854775807) : binV .add (.string ⟨a.toArray⟩) (.string ⟨b.toArray⟩) = some (.string ⟨(a ++ b).toArray⟩) := by
  simp only [binV, binStr, size_str, if_pos h, append_str]

section
variable {P : Ctx} {f : Fr} {s : Hp} {Kv : AV → Hp → Prop}
theorem chkT_guard {d : Nat} {op : AOp} {g : Nat} {w : Bool} : chkT P ⟨some d, op, some (g, w)⟩ f s = guardK (f g) w (hidP (G P op f s (fun r _ => r = f d)) ()) (hidP ((.tup [] : AV) = f d) ()) := rfl
theorem Def_guard {d : Option Nat} {op : AOp} {g : Nat} {w : Bool} : Def P ⟨d, op, some (g, w)⟩ f = guardK (f g) w (hidP (G P op f Hp.emp (fun _ _ => True)) ()) (hidP True ()) := rfl
def b2sA (a : AV) : Option AV :=
  match a with
  | .sl xs _ => match bytesOf xs with
    | some l => some (.v (.string ⟨l.toArray⟩))
    | none => none
  | _ => none
theorem b2sA_map {bs : List UInt8} {o : Own} : b2sA (.sl (bs.map byteAV) o) = some (.v (.string ⟨bs.toArray⟩)) := by simp [b2sA, bytesOf_map]
theorem G_b2s {x : Operand} : G P (.b2s x) f s Kv = valK (b2sA (ev f x)) (hid1 (fun r => Kv r s) ()) := by
  simp only [G, b2sA]; generalize ev f x = a
  cases a <;> first | rfl | (rename_i xs o; simp only []; generalize bytesOf xs = c; cases c <;> rfl)
def mmA (mx : Bool) (a b : AV) : Option AV :=
  match a, b with
  | .v (.int k a), .v (.int k' b) => if k = k' then some (.v (.int k (if mx then max a b else min a b))) else none
  | _, _ => none
theorem mmA_max {k : IntKind} {a b : Int} : mmA true (.v (.int k a)) (.v (.int k b)) = some (.v (.int k (max a b))) := by simp [mmA]
theorem mmA_min {k : IntKind} {a b : Int} : mmA false (.v (.int k a)) (.v (.int k b)) = some (.v (.int k (min a b))) := by simp [mmA]
theorem G_mm {mx : Bool} {k : IntKind} {x y : Operand} : G P (.mm mx k x y) f s Kv = valK (mmA mx (ev f x) (ev f y)) (hid1 (fun r => Kv r s) ()) := by
  simp only [G, mmA]; generalize ev f x = a; generalize ev f y = b
  cases a <;> first
    | rfl
    | (rename_i v; cases v <;> first
        | rfl
        | (cases b <;> first
            | rfl
            | (rename_i w; cases w <;> first | rfl | (simp only [valK_ite, hid1_eq]))))
def lenTA (a : AV) : Option AV :=
  match a with
  | .v (.string t) => some (.v (.int .i64 t.size))
  | _ => none
theorem lenTA_str {bs : List UInt8} : lenTA (.v (.string ⟨bs.toArray⟩)) = some (.v (.int .i64 bs.length)) := by simp [lenTA, size_str]
theorem G_lenT {x : Operand} : G P (.lenT x) f s Kv = valK (lenTA (ev f x)) (hid1 (fun r => Kv r s) ()) := by
  simp only [G, lenTA]; generalize ev f x = a
  cases a <;> first | rfl | (rename_i v; cases v <;> rfl)
def slcSA (a : AV) (lo hi : Option AV) : Option AV :=
  match a with
  | .v (.string t) => match bO lo 0, bO hi t.size with
    | some a, some b => if 0 ≤ a ∧ a ≤ b ∧ b ≤ t.size then some (.v (.string (t.extract a.toNat b.toNat))) else none
    | _, _ => none
  | _ => none
theorem extract_str (bs : List UInt8) (i j : Nat) : (⟨bs.toArray⟩ : ByteArray).extract i j = ⟨((bs.take j).drop i).toArray⟩ := by
  apply ByteArray.ext
  simp only [ByteArray.data_extract]
  simp [List.drop_take]
theorem slcSA_lo {bs : List UInt8} {k : IntKind} {a : Int} (h : 0 ≤ a) (h2 : a ≤ bs.length) : slcSA (.v (.string ⟨bs.toArray⟩)) (some (.v (.int k a))) none = some (.v (.string ⟨(bs.drop a.toNat).toArray⟩)) := by
  simp [slcSA, bO, intOf, size_str, h, h2, extract_str]
theorem slcSA_hi {bs : List UInt8} {k : IntKind} {b : Int} (h : 0 ≤ b) (h2 : b ≤ bs.length) : slcSA (.v (.string ⟨bs.toArray⟩)) none (some (.v (.int k b))) = some (.v (.string ⟨(bs.take b.toNat).toArray⟩)) := by
  simp [slcSA, bO, intOf, size_str, h, h2, extract_str]
theorem slcSA_both {bs : List UInt8} {k k' : IntKind} {a b : Int} (h : 0 ≤ a) (h1 : a ≤ b) (h2 : b ≤ bs.length) : slcSA (.v (.string ⟨bs.toArray⟩)) (some (.v (.int k a))) (some (.v (.int k' b))) = some (.v (.string ⟨((bs.take b.toNat).drop a.toNat).toArray⟩)) := by
  simp [slcSA, bO, intOf, size_str, h, h1, h2, extract_str]
theorem G_slcS {x : Operand} {lo hi : Option Operand} : G P (.slcS x lo hi) f s Kv = valK (slcSA (ev f x) (lo.map (ev f)) (hi.map (ev f))) (hid1 (fun r => Kv r s) ()) := by
  simp only [G, slcSA, bnd_bO]
  generalize ev f x = a; generalize lo.map (ev f) = p; generalize hi.map (ev f) = q
  cases a <;> try rfl
  rename_i v
  cases v <;> try rfl
  rename_i t
  simp only []
  generalize bO p 0 = u; generalize bO q t.size = w
  cases u <;> cases w <;> try rfl
  simp only [valK_ite, hid1_eq]
  apply propext; constructor
  · rintro ⟨h1, h2, h3, h5⟩; exact ⟨⟨h1, h2, h3⟩, h5⟩
  · rintro ⟨⟨h1, h2, h3⟩, h5⟩; exact ⟨h1, h2, h3, h5⟩
theorem idxSA_str {bs : List UInt8} {k : IntKind} {n : Int} (h : 0 ≤ n) (h2 : n < bs.length) : idxSA (.v (.string ⟨bs.toArray⟩)) (.v (.int k n)) = some (.v (.int .u8 (bs.getD n.toNat 0).toNat)) := by
  have h3 : n.toNat < bs.length := by omega
  have e : bs.getD n.toNat 0 = bs[n.toNat] := by simp [List.getD, h3]
  simp [idxSA, h, h3, e]
def cpyK (k : Nat) (s : Hp) (x y : AV) (C : AV → Hp → Prop) : Prop :=
  match x, y with
  | .msl l off n k', .sl ys _ => k' = k ∧ (∀ e ∈ ys, e.cells.length = k) ∧ match s l with
    | some (.cells cs) => off + n * k ≤ cs.length ∧ C (.v (.int .i64 (min ys.length n))) (s.set l (.cells (putAt cs off (flat (ys.take n)))))
    | _ => False
  | .mb l n _ k', .sl ys _ => k' = k ∧ (∀ e ∈ ys, e.cells.length = k) ∧ match s l with
    | some (.cells cs) => n * k ≤ cs.length ∧ C (.v (.int .i64 (min ys.length n))) (s.set l (.cells (putAt cs 0 (flat (ys.take n)))))
    | _ => False
  | _, _ => False
theorem G_cpy {k : Nat} {x y : Operand} : G P (.cpy k x y) f s Kv = cpyK k s (ev f x) (ev f y) (hid2 Kv ()) := rfl
theorem cpy_intro {k l off n : Nat} {ys cs : List AV} {o : Own} {C : AV → Hp → Prop} {d : Dep C} (h1 : allLen k ys) (h2 : s l = some (.cells cs)) (h3 : off + n * k ≤ cs.length)
    (hC : C (.v (.int .i64 (min ys.length n))) (s.set l (.cells (putAt cs off (flat (ys.take n)))))) : cpyK k s (.msl l off n k) (.sl ys o) (hid2 C d) := by
  refine ⟨rfl, h1, ?_⟩; rw [h2]; exact ⟨h3, hC⟩
/-- the mutable view of a whole array -/
def slcMA (k n : Nat) (s : Hp) (a : AV) (lo hi : Option AV) : Option AV :=
  match a with
  | .ptr l off => match bO lo 0, bO hi n with
    | some a, some b => match s.read l with
      | some cs => if 0 ≤ a ∧ a ≤ b ∧ b ≤ n ∧ off + n * k ≤ cs.length ∧ a < n then some (.msl l (off + a.toNat * k) (b.toNat - a.toNat) k) else none
      | none => none
    | _, _ => none
  | _ => none
theorem slcMA_all {k n l off : Nat} {cs : List AV} (h : s.read l = some cs) (h2 : off + n * k ≤ cs.length) (h3 : 0 < n) : slcMA k n s (.ptr l off) none none = some (.msl l off n k) := by
  simp [slcMA, bO, h, h2, h3]
theorem G_slcAm {k n : Nat} {x : Operand} {lo hi : Option Operand} : G P (.slcA k n x lo hi false) f s Kv = valK (slcMA k n s (ev f x) (lo.map (ev f)) (hi.map (ev f))) (hid1 (fun r => Kv r s) ()) := by
  simp only [G, slcMA, bnd_bO]; generalize ev f x = a
  generalize lo.map (ev f) = p; generalize hi.map (ev f) = q
  cases a <;> try rfl
  rename_i l off
  simp only []
  generalize bO p 0 = u; generalize bO q n = w; generalize s.read l = c
  cases u <;> cases w <;> cases c <;> first
    | rfl
    | (simp [valK]; done)
    | (simp only [valK_ite, hid1_eq, Bool.false_eq_true, if_false]
       apply propext; constructor
       · rintro ⟨h1, h2, h3, h4, h5, h6⟩; exact ⟨⟨h1, h2, h3, h4, h5⟩, h6⟩
       · rintro ⟨⟨h1, h2, h3, h4, h5⟩, h6⟩; exact ⟨h1, h2, h3, h4, h5, h6⟩)
def bslMK (k : Nat) (s : Hp) (vs0 : List AV) (C : AV → Hp → Prop) : Prop :=
  (∀ e ∈ vs0, e.cells.length = k) ∧ (if vs0.length = 0 then C (.sl [] .zero) s else ∀ g, s g = none → C (.mb g vs0.length vs0.length k) (s.set g (.cells (flat vs0))))
theorem G_bslM {k : Nat} {xs : List Operand} : G P (.bslM k xs) f s Kv = bslMK k s (xs.map (ev f)) (hid2 Kv ()) := by
  simp only [G, bslMK, hid2, List.length_map]
theorem bslM_nil {k : Nat} {C : AV → Hp → Prop} {d : Dep C} : bslMK k s [] (hid2 C d) = C (.sl [] .zero) s := by simp [bslMK, hid2]
theorem bslM_intro {k : Nat} {vs0 : List AV} {C : AV → Hp → Prop} {d : Dep C} (h1 : allLen k vs0) (h0 : vs0 ≠ []) (hk : ∀ g, s g = none → C (.mb g vs0.length vs0.length k) (s.set g (.cells (flat vs0)))) : bslMK k s vs0 (hid2 C d) := by
  refine ⟨h1, ?_⟩
  rw [if_neg (fun h => h0 (List.eq_nil_of_length_eq_zero h))]
  exact hk
def mksK (k bytes : Nat) (z : List AV) (s : Hp) (x y : AV) (C : AV → Hp → Prop) : Prop :=
  match x, y with
  | .v (.int _ n), .v (.int _ m) => n = m ∧ 0 ≤ n ∧ n ≤ 9223372036854775807 ∧ n * bytes ≤ 281474976710656 ∧ ∀ g, s g = none → C (.mb g n.toNat n.toNat k) (s.set g (.cells (List.replicate n.toNat z).flatten))
  | _, _ => False
theorem G_mks {k bytes : Nat} {z : List AV} {x y : Operand} : G P (.mks k bytes z x y) f s Kv = mksK k bytes z s (ev f x) (ev f y) (hid2 Kv ()) := rfl
theorem mks_intro {k bytes n : Nat} {z : List AV} {kd kd' : IntKind} {C : AV → Hp → Prop} {d : Dep C} (h1 : n * bytes ≤ 281474976710656) (h2 : n ≤ 9223372036854775807) (hk : ∀ g, s g = none → C (.mb g n n k) (s.set g (.cells (List.replicate n z).flatten))) :
    mksK k bytes z s (.v (.int kd (n : Int))) (.v (.int kd' (n : Int))) (hid2 C d) := ⟨rfl, by omega, by omega, by omega, fun g hg => by
  have := hk g hg
  simp only [hid2, Int.toNat_natCast]; exact this⟩
def appMK (k bytes : Nat) (s : Hp) (x y : AV) (C : AV → Hp → Prop) : Prop :=
  match srcS s k y with
  | some (m, ys) => match x with
    | .sl xs o => xs = [] ∧ (o = .nil ∨ o = .zero) ∧ m * bytes ≤ 140737488355328 ∧ m ≤ 9223372036854775807 ∧
      (if m = 0 then C (.sl [] o) s else ∀ g cap sp, s g = none → m ≤ cap → cap ≤ maxLen → sp.length = (cap - m) * k → C (.mb g m cap k) (s.set g (.cells (ys ++ sp))))
    | .mb l n cap k' => match s l with
      | some (.cells cs) => k' = k ∧ cs.length = cap * k ∧ (n + m) * bytes ≤ 140737488355328 ∧ n + m ≤ 9223372036854775807 ∧
        (if n + m ≤ cap then C (.mb l (n + m) cap k) (s.set l (.cells (putAt cs (n * k) ys)))
         else ∀ g cap' sp, s g = none → n + m ≤ cap' → cap' ≤ maxLen → sp.length = (cap' - (n + m)) * k → C (.mb g (n + m) cap' k) (s.set g (.cells (cs.take (n * k) ++ ys ++ sp))))
      | some (.sc cs) => k' = k ∧ cs.length = cap * k ∧ (n + m) * bytes ≤ 140737488355328 ∧ n + m ≤ 9223372036854775807 ∧
        (if n + m ≤ cap then C (.mb l (n + m) cap k) (s.set l (.sc (putAt cs (n * k) ys)))
         else ∀ g cap' sp, s g = none → n + m ≤ cap' → cap' ≤ maxLen → sp.length = (cap' - (n + m)) * k → C (.mb g (n + m) cap' k) (s.set g (.cells (cs.take (n * k) ++ ys ++ sp))))
      | _ => False
    | _ => False
  | none => False
theorem G_appM {k bytes : Nat} {x y : Operand} : G P (.appM k bytes x y) f s Kv = appMK k bytes s (ev f x) (ev f y) (hid2 Kv ()) := rfl
/-- a slice that is being built, and may be written: its cells -/
def MO (s0 s : Hp) (k : Nat) (us : List AV) (a : AV) : Prop :=
  s0.sub s ∧ ((us = [] ∧ (a = .sl [] .nil ∨ a = .sl [] .zero)) ∨ ∃ l n cap cs, a = .mb l n cap k ∧ s0 l = none ∧ s l = some (.cells cs) ∧ cs.length = cap * k ∧ cs.take (n * k) = us ∧ us.length = n * k ∧ n ≤ cap ∧ cap ≤ maxLen)
theorem MO.nil {s0 s : Hp} {k : Nat} (h : s0.sub s) : MO s0 s k [] (.sl [] .nil) := ⟨h, .inl ⟨rfl, .inl rfl⟩⟩
theorem MO.zero {s0 s : Hp} {k : Nat} (h : s0.sub s) : MO s0 s k [] (.sl [] .zero) := ⟨h, .inl ⟨rfl, .inr rfl⟩⟩
theorem MO.mono {s0 s s' : Hp} {k : Nat} {us : List AV} {a : AV} (h : MO s0 s k us a) (hs : s.sub s') : MO s0 s' k us a := by
  obtain ⟨h1, h2⟩ := h
  refine ⟨Hp.sub_trans h1 hs, ?_⟩
  rcases h2 with h2 | ⟨l, n, cap, cs, q1, q2, q3, q4⟩
  · exact .inl h2
  · exact .inr ⟨l, n, cap, cs, q1, q2, hs _ _ q3, q4⟩
theorem MO.base {s0 s1 s : Hp} {k : Nat} {us : List AV} {a : AV} (h : MO s0 s k us a) (hs : s1.sub s0) : MO s1 s k us a := by
  obtain ⟨h1, h2⟩ := h
  refine ⟨Hp.sub_trans hs h1, ?_⟩
  rcases h2 with h2 | ⟨l, n, cap, cs, q1, q2, q3⟩
  · exact .inl h2
  · exact .inr ⟨l, n, cap, cs, q1, Hp.sub_none hs q2, q3⟩
/-- a new object -/
theorem MO.new {s0 s : Hp} {k l2 : Nat} {us : List AV} {a : AV} {ob : Ob} (h : MO s0 s k us a) (hl : s l2 = none) : MO (s0.set l2 ob) (s.set l2 ob) k us a := by
  obtain ⟨h1, h2⟩ := h
  refine ⟨Hp.sub_set h1, ?_⟩
  rcases h2 with h2 | ⟨l, n, cap, cs, q1, q2, q3, q4⟩
  · exact .inl h2
  · have hne : l ≠ l2 := by rintro rfl; rw [hl] at q3; cases q3
    exact .inr ⟨l, n, cap, cs, q1, by rw [Hp.set_ne _ _ hne]; exact q2, by rw [Hp.set_ne _ _ hne]; exact q3, q4⟩
theorem MO.src {s0 s : Hp} {k : Nat} {us : List AV} {a : AV} (h : MO s0 s k us a) : ∃ n, us.length = n * k ∧ srcF s k a = some (n, us) ∧ lenAA a = some (.v (.int .i64 n)) := by
  obtain ⟨h1, h2⟩ := h
  rcases h2 with ⟨rfl, rfl | rfl⟩ | ⟨l, n, cap, cs, rfl, q2, q3, q4, q5, q6, q7, q8⟩
  · exact ⟨0, by simp, rfl, rfl⟩
  · exact ⟨0, by simp, rfl, rfl⟩
  · refine ⟨n, q6, ?_, rfl⟩
    have : n * k ≤ cs.length := by rw [q4]; exact Nat.mul_le_mul_right _ q7
    simp [srcF, Hp.read_of q3, this, q5]
/-- APPEND, written through -/
theorem appM_own {s0 : Hp} {k bytes m : Nat} {us ys : List AV} {x y : AV} {C : AV → Hp → Prop} {d : Dep C} (h : MO s0 s k us x) (hk : 0 < k) (hs : srcF s k y = some (m, ys)) (hy : ys.length = m * k) (h3 : (us.length + ys.length) * bytes ≤ 140737488355328 * k) (h4 : us.length + ys.length ≤ 9223372036854775807)
    (hC : ∀ a' s', MO s0 s' k (us ++ ys) a' → C a' s') : appMK k bytes s x y (hid2 C d) := by
  obtain ⟨h1, h2⟩ := h
  unfold appMK
  rw [srcS_of hs]
  simp only [hid2]
  have bnd : ∀ n, us.length = n * k → (n + m) * bytes ≤ 140737488355328 ∧ n + m ≤ 9223372036854775807 := by
    intro n hn
    have e : us.length + ys.length = (n + m) * k := by rw [hn, hy, Nat.add_mul]
    rw [e] at h3 h4
    constructor
    · have : (n + m) * bytes * k ≤ 140737488355328 * k := by rw [Nat.mul_assoc, Nat.mul_comm bytes k, ← Nat.mul_assoc]; exact h3
      exact Nat.le_of_mul_le_mul_right this hk
    · have : (n + m) * 1 ≤ (n + m) * k := Nat.mul_le_mul_left _ hk
      omega
  rcases h2 with ⟨rfl, ho⟩ | ⟨l, n, cap, cs, rfl, q2, q3, q4, q5, q6, q7, q8⟩
  · obtain ⟨b1, b2⟩ := bnd 0 (by simp)
    have main : ∀ o, (o = .nil ∨ o = .zero) → (([] : List AV) = [] ∧ (o = .nil ∨ o = .zero) ∧ m * bytes ≤ 140737488355328 ∧ m ≤ 9223372036854775807 ∧
      (if m = 0 then C (.sl [] o) s else ∀ g cap sp, s g = none → m ≤ cap → cap ≤ maxLen → sp.length = (cap - m) * k → C (.mb g m cap k) (s.set g (.cells (ys ++ sp))))) := by
      intro o hoo
      refine ⟨rfl, hoo, by simpa using b1, by omega, ?_⟩
      split
      · rename_i hm
        subst hm
        have : ys = [] := List.eq_nil_of_length_eq_zero (by simpa using hy)
        subst this
        refine hC _ _ ⟨h1, .inl ⟨rfl, ?_⟩⟩
        rcases hoo with rfl | rfl
        · exact .inl rfl
        · exact .inr rfl
      · intro g cap sp hg hc hcm hsp
        refine hC _ _ ⟨Hp.sub_new h1 (Hp.sub_none h1 hg), .inr ⟨g, m, cap, ys ++ sp, rfl, Hp.sub_none h1 hg, Hp.set_same _ _ _, ?_, ?_, by simpa using hy, hc, hcm⟩⟩
        · rw [List.length_append, hy, hsp, ← Nat.add_mul]; congr 1; omega
        · rw [← hy, List.take_left]; rfl
    rcases ho with rfl | rfl
    · exact main _ (.inl rfl)
    · exact main _ (.inr rfl)
  · obtain ⟨b1, b2⟩ := bnd n q6
    simp only [q3]
    refine ⟨trivial, q4, b1, b2, ?_⟩
    have hnk : (cs.take (n * k)).length = n * k := by rw [q5, q6]
    split
    · rename_i hroom
      have hfit : n * k + ys.length ≤ cs.length := by rw [hy, q4, ← Nat.add_mul]; exact Nat.mul_le_mul_right _ hroom
      refine hC _ _ ⟨Hp.sub_new h1 q2, .inr ⟨l, n + m, cap, _, rfl, q2, Hp.set_same _ _ _, ?_, ?_, by rw [List.length_append, q6, hy, Nat.add_mul], hroom, q8⟩⟩
      · rw [putAt_length _ _ _ hfit, q4]
      · have e : (n + m) * k = (cs.take (n * k) ++ ys).length := by rw [List.length_append, hnk, hy, Nat.add_mul]
        rw [putAt, e, List.take_left, q5]
    · intro g cap' sp hg hc hcm hsp
      refine hC _ _ ⟨Hp.sub_new h1 (Hp.sub_none h1 hg), .inr ⟨g, n + m, cap', _, rfl, Hp.sub_none h1 hg, Hp.set_same _ _ _, ?_, ?_, by rw [List.length_append, q6, hy, Nat.add_mul], hc, hcm⟩⟩
      · rw [List.length_append, List.length_append, hnk, hy, hsp, ← Nat.add_mul, ← Nat.add_mul]; congr 1; omega
      · have e : (n + m) * k = (cs.take (n * k) ++ ys).length := by rw [List.length_append, hnk, hy, Nat.add_mul]
        rw [e, List.take_left, q5]
theorem srcF_bytes {bs : List UInt8} {o : Own} : srcF s 1 (.sl (bs.map byteAV) o) = some (bs.length, bs.map byteAV) := by
  have : ((bs.map byteAV).all fun e => decide (e.cells.length = 1)) = true := by simp [byteAV, AV.cells]
  simp [srcF, this, flat_bytes]
def b2sMA (s : Hp) (a : AV) : Option AV :=
  match srcF s 1 a with
  | some (_, xs) => match bytesOf xs with
    | some l => some (.v (.string ⟨l.toArray⟩))
    | none => none
  | none => none
theorem G_b2sM {x : Operand} : G P (.b2sM x) f s Kv = valK (b2sMA s (ev f x)) (hid1 (fun r => Kv r s) ()) := by
  simp only [G, b2sMA]
  cases srcF s 1 (ev f x) with
  | none => rfl
  | some p =>
    obtain ⟨m, xs⟩ := p
    simp only
    cases bytesOf xs <;> rfl
theorem b2sMA_of {a : AV} {n : Nat} {bs : List UInt8} (h : srcF s 1 a = some (n, bs.map byteAV)) : b2sMA s a = some (.v (.string ⟨bs.toArray⟩)) := by simp [b2sMA, h, bytesOf_map]
def s2bA (a : AV) : Option AV :=
  match a with
  | .v (.string t) => some (.sl (t.data.toList.map byteAV) .any)
  | _ => none
theorem s2bA_str {bs : List UInt8} : s2bA (.v (.string ⟨bs.toArray⟩)) = some (.sl (bs.map byteAV) .any) := by simp [s2bA]
theorem G_s2b {x : Operand} : G P (.s2b x) f s Kv = valK (s2bA (ev f x)) (hid1 (fun r => Kv r s) ()) := by
  simp only [G, s2bA]; generalize ev f x = a
  cases a <;> first | rfl | (rename_i v; cases v <;> rfl)

/-! ### a slice that is written no more -/
theorem RV.frozen {H : PH} {w : World} {l n cap k : Nat} {cs : List AV} {v : Value} (hh : Holds H s w) (hl : s l = some (.ro cs)) (hn : n * k ≤ cs.length) (hv : RV H v (.mb l n cap k)) : RV H v (.sl (elemsOf k n cs) .any) := by
  obtain ⟨hone, vs, T, fz, hb, hr, hH⟩ := hh.ob l _ hl
  have hsz : vs.size = cs.length := hr.1
  cases hv with
  | mb l n cap k hk hcap =>
    obtain ⟨e1, e2, e3⟩ := elemsOf_cells hk hn hone
    by_cases h0 : n = 0
    · subst h0
      have : elemsOf k 0 cs = [] := List.eq_nil_of_length_eq_zero e3
      rw [this]
      exact .slEmpty _ _ _ (fun h => by cases h) trivial
    · refine .sl l 0 n cap k (fun j => vs.getD j Go.undef) _ .any hk e3.symm hcap e1 ?_ ?_ ?_ trivial
      · intro c hc; rw [e2] at hc; exact hone c (List.mem_of_mem_take hc)
      · intro j hj; rw [Nat.zero_add]; exact hH j (by omega)
      · intro j u hu
        rw [e2] at hu
        have hj : j < n * k := by have := (List.getElem?_eq_some_iff.1 hu).1; simp at this; omega
        rw [List.getElem?_take_of_lt hj] at hu
        exact hr.2 j u hu
theorem AC.freeze {P : Program} {g : FuncId} {pre post : List AV} {l n cap k : Nat} {cs : List AV} {R : AV → Hp → Prop} (hl : s l = some (.cells cs)) (hn : n * k ≤ cs.length) (h : AC P g (pre ++ .sl (elemsOf k n cs) .any :: post) (s.set l (.ro cs)) R) : AC P g (pre ++ .mb l n cap k :: post) s R := by
  refine h.pre fun vs w H ha hh => ?_
  obtain ⟨H', st⟩ := Step.freeze hh hl
  refine ⟨H', ?_, st⟩
  have ha' := ha.mono st.le
  refine ⟨by rw [ha'.1]; simp, fun j u hu => ?_⟩
  by_cases hj : j = pre.length
  · subst hj
    have h1 := ha'.2 pre.length (.mb l n cap k) (by simp)
    have h2 : u = .sl (elemsOf k n cs) .any := by simpa using hu.symm
    subst h2
    exact RV.frozen st.holds (Hp.set_same _ _ _) hn h1
  · refine ha'.2 j u ?_
    rw [List.getElem?_append] at hu ⊢
    split
    · rename_i h1; rw [if_pos h1] at hu; exact hu
    · rename_i h1
      rw [if_neg h1] at hu
      obtain ⟨i, hi⟩ : ∃ i, j - pre.length = i + 1 := ⟨j - pre.length - 1, by omega⟩
      rw [hi] at hu ⊢
      simpa using hu
end
/-! bundles of the lemmas above, for 'simp' -/
def rF :=
  And.intro @G_bslM <|
  And.intro @G_appM <|
  And.intro @G_mks <|
  And.intro @G_b2sM <|
  And.intro @G_s2b <|
  And.intro @G_b2s <|
  And.intro @G_mm <|
  And.intro @G_lenT <|
  And.intro @G_slcS <|
  And.intro @G_cpy <|
  And.intro @G_slcAm <|
  And.intro @chkT_guard <|
  @Def_guard
def rG :=
  And.intro @s2bA_str <|
  And.intro @iaSA_mb <|
  And.intro @lenAA_mb <|
  And.intro @slcAA_mb <|
  And.intro @b2sA_map <|
  And.intro @mmA_max <|
  And.intro @mmA_min <|
  And.intro @lenTA_str <|
  And.intro @slcSA_lo <|
  And.intro @slcSA_hi <|
  And.intro @slcSA_both <|
  And.intro @slcMA_all <|
  And.intro @neq_str <|
  And.intro @eql_str <|
  And.intro @idxSA_str <|
  And.intro @ite_true.{1} <|
  And.intro @ite_false.{1} <|
  And.intro @Bool.not_false <|
  And.intro @Bool.not_true <|
  And.intro @Bool.false_xor <|
  And.intro @Bool.true_xor <|
  And.intro @Bool.true_and <|
  And.intro @Bool.false_and <|
  And.intro @decide_true <|
  @decide_false
end Go.Av
/-
  Running abstract code, continued: functions as values, interfaces, panics, strings' iterators, builders.
-/
namespace Go.Av
open Go

section
variable {P : Ctx} {f : Fr} {s : Hp} {Kv : AV → Hp → Prop}
theorem G_clo {fn : FuncId} {a b : List Operand} : G P (.clo fn a b) f s Kv = letK (.clo fn (a.map (ev f)) (b.map (ev f))) (hid1 (fun r => Kv r s) ()) := rfl
def callVK (P : Ctx) (x : AV) (args : List AV) (s : Hp) (C : AV → Hp → Prop) : Prop :=
  match x with
  | .clo fn ds cs => callOk P.p fn = true ∧ ACp P.p fn (ds ++ args ++ cs) s C (up P.k)
  | _ => False
theorem G_callV {x : Operand} {args : List Operand} : G P (.callV x args) f s Kv = callVK P (ev f x) (args.map (ev f)) s (hid2 Kv ()) := rfl
theorem callV_intro {fn : FuncId} {ds cs args : List AV} {C R : AV → Hp → Prop} {d : Dep C} (hok : callOk P.p fn = true) (h : AC P.p fn (ds ++ args ++ cs) s R) (hr : ∀ r s', R r s' → C r s') : callVK P (.clo fn ds cs) args s (hid2 C d) := ⟨hok, (h.mono hr).p⟩
theorem callVp_intro {fn : FuncId} {ds cs args : List AV} {C R Rp : AV → Hp → Prop} {d : Dep C} (hok : callOk P.p fn = true) (h : ACp P.p fn (ds ++ args ++ cs) s R (up Rp)) (hr : ∀ r s', R r s' → C r s') (hp : ∀ r s', Rp r s' → P.k r s') : callVK P (.clo fn ds cs) args s (hid2 C d) := ⟨hok, h.mono hr (fun _ _ => up_mono hp)⟩
theorem G_mki {t : TypeId} {x : Operand} : G P (.mki t x) f s Kv = letK (.iface t (ev f x)) (hid1 (fun r => Kv r s) ()) := rfl
def asrtA (t : TypeId) (ok : Bool) (z : AV) (x : AV) : Option AV :=
  match x with
  | .iface d y => if d = t then some (if ok then .tup [y, .v (.bool true)] else y) else if ok = true then some (.tup [z, .v (.bool false)]) else none
  | .v .nilIface => if ok = true then some (.tup [z, .v (.bool false)]) else none
  | _ => none
theorem G_asrt {t : TypeId} {ok : Bool} {z : AV} {x : Operand} : G P (.asrt t ok z x) f s Kv = valK (asrtA t ok z (ev f x)) (hid1 (fun r => Kv r s) ()) := by
  simp only [G, asrtA]; generalize ev f x = a
  cases a <;> first
    | rfl
    | (rename_i d y; by_cases h : d = t
       · simp only [h, if_true]; rfl
       · simp only [h, if_false]; cases ok <;> simp [valK, hid1])
    | (rename_i v; cases v <;> first | rfl | (cases ok <;> simp [valK, hid1]))
theorem asrtA_yes {t : TypeId} {z y : AV} : asrtA t true z (.iface t y) = some (.tup [y, .v (.bool true)]) := by simp [asrtA]
theorem asrtA_no {t d : TypeId} {z y : AV} (h : d ≠ t) : asrtA t true z (.iface d y) = some (.tup [z, .v (.bool false)]) := by simp [asrtA, h]
theorem asrtA_nil {t : TypeId} {z : AV} : asrtA t true z (.v .nilIface) = some (.tup [z, .v (.bool false)]) := by simp [asrtA]
theorem asrtA_one {t : TypeId} {z y : AV} : asrtA t false z (.iface t y) = some y := by simp [asrtA]
def eqiA (neg : Bool) (x : AV) : Option AV :=
  match x with
  | .iface _ _ => some (.v (.bool neg))
  | .v .nilIface => some (.v (.bool (!neg)))
  | _ => none
theorem G_eqi {neg : Bool} {x : Operand} : G P (.eqi neg x) f s Kv = valK (eqiA neg (ev f x)) (hid1 (fun r => Kv r s) ()) := by
  simp only [G, eqiA]; generalize ev f x = a
  cases a <;> first
    | rfl
    | (rename_i v; cases v <;> rfl)
theorem eqiA_some {neg : Bool} {t : TypeId} {y : AV} : eqiA neg (.iface t y) = some (.v (.bool neg)) := rfl
theorem eqiA_nil {neg : Bool} : eqiA neg (.v .nilIface) = some (.v (.bool (!neg))) := rfl
def eqfnA (neg : Bool) (x : AV) : Option AV :=
  match x with
  | .clo _ _ _ => some (.v (.bool neg))
  | .v .nilFunc => some (.v (.bool (!neg)))
  | _ => none
theorem G_eqfn {neg : Bool} {x : Operand} : G P (.eqfn neg x) f s Kv = valK (eqfnA neg (ev f x)) (hid1 (fun r => Kv r s) ()) := by
  simp only [G, eqfnA]; generalize ev f x = a
  cases a <;> first
    | rfl
    | (rename_i v; cases v <;> rfl)
theorem eqfnA_some {neg : Bool} {g : Nat} {a b : List AV} : eqfnA neg (.clo g a b) = some (.v (.bool neg)) := rfl
theorem eqfnA_nil {neg : Bool} : eqfnA neg (.v .nilFunc) = some (.v (.bool (!neg))) := rfl
def panK (P : Ctx) (x : AV) (s : Hp) : Prop :=
  match x with
  | .iface t y => up P.k (.iface t y) s
  | _ => False
theorem G_pan {x : Operand} : G P (.pan x) f s Kv = panK P (ev f x) s := rfl
theorem pan_intro {t : TypeId} {y : AV} (h : P.k (.iface t y) s) : panK P (.iface t y) s := up_of h
def rngSK (x : AV) (s : Hp) (C : Nat → ByteArray → Prop) : Prop :=
  match x with
  | .v (.string t) => ∀ l, s l = none → C l t
  | _ => False
theorem G_rngS {x : Operand} : G P (.rngS x) f s Kv = rngSK (ev f x) s (hid2 (fun l t => Kv (.ptr l 0) (s.set l (.it t 0))) ()) := rfl
theorem rngS_str {bs : List UInt8} {C : Nat → ByteArray → Prop} {d : Dep C} : rngSK (.v (.string ⟨bs.toArray⟩)) s (hid2 C d) = newK s (hid1 (fun l => C l ⟨bs.toArray⟩) ()) := rfl
def nxtSK (x : AV) (s : Hp) (C : AV → Hp → Prop) : Prop :=
  match x with
  | .ptr l off => off = 0 ∧ match s l with
    | some (.it t pos) => if pos < t.size then C (.tup [.v (.bool true), .v (.int .i64 pos), .v (.int .i32 (Utf8.decode t pos).1)]) (s.set l (.it t (pos + (Utf8.decode t pos).2))) else C (.tup [.v (.bool false)]) s
    | _ => False
  | _ => False
theorem G_nxtS {x : Operand} : G P (.nxtS x) f s Kv = nxtSK (ev f x) s (hid2 Kv ()) := rfl
theorem nxtS_some {l pos : Nat} {bs : List UInt8} {C : AV → Hp → Prop} {d : Dep C} (h : s l = some (.it ⟨bs.toArray⟩ pos)) (hp : pos < bs.length)
    (hC : C (.tup [.v (.bool true), .v (.int .i64 pos), .v (.int .i32 (Utf8.decode ⟨bs.toArray⟩ pos).1)]) (s.set l (.it ⟨bs.toArray⟩ (pos + (Utf8.decode ⟨bs.toArray⟩ pos).2)))) : nxtSK (.ptr l 0) s (hid2 C d) := by
  refine ⟨rfl, ?_⟩
  rw [h]
  simp only [size_str, if_pos hp]; exact hC
theorem nxtS_none {l pos : Nat} {bs : List UInt8} {C : AV → Hp → Prop} {d : Dep C} (h : s l = some (.it ⟨bs.toArray⟩ pos)) (hp : ¬ pos < bs.length) (hC : C (.tup [.v (.bool false)]) s) : nxtSK (.ptr l 0) s (hid2 C d) := by
  refine ⟨rfl, ?_⟩
  rw [h]
  simp only [size_str, if_neg hp]; exact hC
def s2bMK (x : AV) (s : Hp) (C : AV → Hp → Prop) : Prop :=
  match x with
  | .v (.string t) => t.size ≤ 140737488355328 ∧ ∀ g cap sp, s g = none → t.size ≤ cap → cap ≤ maxLen → sp.length = cap - t.size → C (.mb g t.size cap 1) (s.set g (.sc (t.data.toList.map byteAV ++ sp)))
  | _ => False
theorem G_s2bM {x : Operand} : G P (.s2bM x) f s Kv = s2bMK (ev f x) s (hid2 Kv ()) := rfl
theorem G_allocT {T : TypeId} {z : List AV} : G P (.allocT T z) f s Kv = newK s (hid1 (fun l => Kv (.ptr l 0) (s.set l (.tc T z))) ()) := rfl
def appTK (e : TypeId) (s : Hp) (x y : AV) (C : AV → Hp → Prop) : Prop :=
  match srcS s 1 y with
    | some (m, ys) => match x with
      | .sl xs o => xs = [] ∧ (o = .nil ∨ o = .zero) ∧ m ≤ 140737488355328 ∧
        (if m = 0 then C (.sl [] o) s else ∀ g cap sp, s g = none → m ≤ cap → cap ≤ maxLen → sp.length = (cap - m) * 1 → C (.mb g m cap 1) (s.set g (.tc e (ys ++ sp))))
      | .mb l n cap k' => match s l with
        | some (.tc T cs) => T = e ∧ k' = 1 ∧ cs.length = cap * 1 ∧ n + m ≤ 140737488355328 ∧
          (if n + m ≤ cap then C (.mb l (n + m) cap 1) (s.set l (.tc T (putAt cs (n * 1) ys)))
           else ∀ g cap' sp, s g = none → n + m ≤ cap' → cap' ≤ maxLen → sp.length = (cap' - (n + m)) * 1 → C (.mb g (n + m) cap' 1) (s.set g (.tc e (cs.take (n * 1) ++ ys ++ sp))))
        | _ => False
      | _ => False
    | none => False
theorem G_appT {e : TypeId} {x y : Operand} : G P (.appT e x y) f s Kv = appTK e s (ev f x) (ev f y) (hid2 Kv ()) := rfl
def toUK (x : AV) (s : Hp) (C : AV → Prop) : Prop :=
  match x with
  | .ptr l off => match s.read l with
    | some cs => off < cs.length ∧ C (.ptr l off)
    | none => False
  | _ => False
theorem G_toU {x : Operand} : G P (.toU x) f s Kv = toUK (ev f x) s (hid1 (fun r => Kv r s) ()) := by
  simp only [G, toUK]; generalize ev f x = a
  cases a <;> rfl
theorem toU_ptr {l off : Nat} {cs : List AV} {C : AV → Prop} {d : Dep C} (h : s.read l = some cs) (h2 : off < cs.length) (hC : C (.ptr l off)) : toUK (.ptr l off) s (hid1 C d) := by
  simp only [toUK, h]; exact ⟨h2, hC⟩
def frUK (T : TypeId) (n : Nat) (x : AV) (s : Hp) (C : AV → Prop) : Prop :=
  match x with
  | .ptr l off => off = 0 ∧ match s l with
    | some (.tc T' cs) => T' = T ∧ cs.length = n ∧ C (.ptr l off)
    | _ => False
  | _ => False
theorem G_frU {T : TypeId} {n : Nat} {x : Operand} : G P (.frU T n x) f s Kv = frUK T n (ev f x) s (hid1 (fun r => Kv r s) ()) := by
  simp only [G, frUK]; generalize ev f x = a
  cases a <;> rfl
theorem frU_ptr {T : TypeId} {n l : Nat} {cs : List AV} {C : AV → Prop} {d : Dep C} (h : s l = some (.tc T cs)) (h2 : cs.length = n) (hC : C (.ptr l 0)) : frUK T n (.ptr l 0) s (hid1 C d) := by
  simp only [frUK, h]; exact ⟨trivial, trivial, h2, hC⟩
def sdatA (x : AV) : Option AV :=
  match x with
  | .sl [] .nil => some (.v (.pointer none))
  | .mb l _ cap _ => if 0 < cap then some (.ptr l 0) else none
  | _ => none
theorem G_sdat {x : Operand} : G P (.sdat x) f s Kv = valK (sdatA (ev f x)) (hid1 (fun r => Kv r s) ()) := by
  simp only [G, sdatA]; generalize ev f x = a
  cases a <;> first
    | rfl
    | (rename_i xs o; cases xs <;> cases o <;> simp [valK, hid1])
    | (simp only [valK_ite, hid1_eq]; done)
theorem sdatA_nil : sdatA (.sl [] .nil) = some (.v (.pointer none)) := rfl
theorem sdatA_mb {l n cap k : Nat} (h : 0 < cap) : sdatA (.mb l n cap k) = some (.ptr l 0) := by simp [sdatA, h]
def ustrK (e : TypeId) (x y : AV) (s : Hp) (C : AV → Hp → Prop) : Prop :=
  match x, y with
    | .v (.pointer none), .v (.int k n) => k = .i64 ∧ n = 0 ∧ C (.v (.string ⟨#[]⟩)) s
    | .ptr l off, .v (.int k n) => k = .i64 ∧ off = 0 ∧ 0 < n ∧ match s l with
      | some (.tc T cs) => T = e ∧ n ≤ cs.length ∧ n ≤ 9223372036854775807 ∧ match bytesOf (cs.take n.toNat) with
        | some bs => C (.v (.string ⟨bs.toArray⟩)) (s.del l)
        | none => False
      | _ => False
    | _, _ => False
theorem G_ustr {e : TypeId} {x y : Operand} : G P (.ustr e x y) f s Kv = ustrK e (ev f x) (ev f y) s (hid2 Kv ()) := by
  simp only [G, ustrK]; generalize ev f x = a; generalize ev f y = b
  cases a <;> first
    | rfl
    | (rename_i v; cases v <;> first
        | rfl
        | (rename_i p; cases p <;> first | rfl | (cases b <;> first | rfl | (rename_i u; cases u <;> rfl))))
    | (cases b <;> first | rfl | (rename_i u; cases u <;> rfl))
theorem ustr_nil {e : TypeId} {C : AV → Hp → Prop} {d : Dep C} (hC : C (.v (.string ⟨#[]⟩)) s) : ustrK e (.v (.pointer none)) (.v (.int .i64 0)) s (hid2 C d) := ⟨rfl, rfl, hC⟩
theorem ustr_some {e : TypeId} {l n : Nat} {cs : List AV} {bs : List UInt8} {C : AV → Hp → Prop} {d : Dep C} (h : s l = some (.tc e cs)) (h0 : 0 < n) (hn : n ≤ cs.length) (h63 : n ≤ 9223372036854775807) (hb : cs.take n = bs.map byteAV)
    (hC : C (.v (.string ⟨bs.toArray⟩)) (s.del l)) : ustrK e (.ptr l 0) (.v (.int .i64 (n : Int))) s (hid2 C d) := by
  refine ⟨rfl, rfl, by omega, ?_⟩
  rw [h]
  refine ⟨rfl, by omega, by omega, ?_⟩
  simp only [Int.toNat_natCast, hb, bytesOf_map]; exact hC
/-- a store into a row of cells of whatever kind -/
def storeXK (s : Hp) (n : Nat) (p : AV) (ys : List AV) (C : Hp → Prop) : Prop :=
  match p with
  | .ptr l off => match s l with
    | some (.cells cs) => ys.length = n ∧ off + n ≤ cs.length ∧ C (s.set l (.cells (putAt cs off ys)))
    | some (.tc T cs) => ys.length = n ∧ off + n ≤ cs.length ∧ C (s.set l (.tc T (putAt cs off ys)))
    | some (.sc cs) => ys.length = n ∧ off + n ≤ cs.length ∧ C (s.set l (.sc (putAt cs off ys)))
    | _ => False
  | _ => False
theorem G_storeX {n : Nat} {x y : Operand} : G P (.storeX n x y) f s Kv = storeXK s n (ev f x) (ev f y).cells (hid1 (fun s' => Kv (.tup []) s') ()) := by
  simp only [G, storeXK]; generalize ev f x = a
  cases a <;> rfl
theorem storeX_t {n l off : Nat} {T : TypeId} {cs ys : List AV} {C : Hp → Prop} {d : Dep C} (h : s l = some (.tc T cs)) (h1 : ys.length = n) (h2 : off + n ≤ cs.length) (hC : C (s.set l (.tc T (putAt cs off ys)))) : storeXK s n (.ptr l off) ys (hid1 C d) := by
  simp only [storeXK, h]; exact ⟨h1, h2, hC⟩
theorem storeX_c {n l off : Nat} {cs ys : List AV} {C : Hp → Prop} {d : Dep C} (h : s l = some (.cells cs)) (h1 : ys.length = n) (h2 : off + n ≤ cs.length) (hC : C (s.set l (.cells (putAt cs off ys)))) : storeXK s n (.ptr l off) ys (hid1 C d) := by
  simp only [storeXK, h]; exact ⟨h1, h2, hC⟩
theorem storeX_s {n l off : Nat} {cs ys : List AV} {C : Hp → Prop} {d : Dep C} (h : s l = some (.sc cs)) (h1 : ys.length = n) (h2 : off + n ≤ cs.length) (hC : C (s.set l (.sc (putAt cs off ys)))) : storeXK s n (.ptr l off) ys (hid1 C d) := by
  simp only [storeXK, h]; exact ⟨h1, h2, hC⟩
theorem awp_refuse {K : Ex → Fr → Hp → Prop} : awp P .refuse K f s = False := rfl
theorem Hp.read_set_tc {l : Nat} {T : TypeId} {cs : List AV} : (s.set l (.tc T cs)).read l = some cs := by simp [Hp.read, Hp.set]
theorem Hp.read_ofT {l : Nat} {T : TypeId} {cs : List AV} (h : s l = some (.tc T cs)) : s.read l = some cs := by simp [Hp.read, h]
theorem cells_clo {g : Nat} {a b : List AV} : (AV.clo g a b).cells = [.clo g a b] := rfl
theorem nilcA_clo {g : Nat} {a b : List AV} : nilcA (.clo g a b) = some (.clo g a b) := rfl
def eqppA (neg : Bool) (s : Hp) (x y : AV) : Option AV :=
  match x, y with
    | .ptr _ _, .v (.pointer none) => some (.v (.bool neg))
    | .v (.pointer none), .ptr _ _ => some (.v (.bool neg))
    | .v (.pointer none), .v (.pointer none) => some (.v (.bool (!neg)))
    | .ptr l o, .ptr l' o' => if isCells s l = true ∧ isCells s l' = true then some (.v (.bool (xor neg (decide (l = l' ∧ o = o'))))) else none
    | _, _ => none
theorem G_eqpp {neg : Bool} {x y : Operand} : G P (.eqpp neg x y) f s Kv = valK (eqppA neg s (ev f x) (ev f y)) (hid1 (fun r => Kv r s) ()) := by
  simp only [G, eqppA]; generalize ev f x = a; generalize ev f y = b
  cases a <;> first
    | rfl
    | (rename_i v; cases v <;> first
        | rfl
        | (rename_i p; cases p <;> first | rfl | (cases b <;> first | rfl | (rename_i u; cases u <;> first | rfl | (rename_i q; cases q <;> rfl)))))
    | (cases b <;> first | rfl | (rename_i u; cases u <;> first | rfl | (rename_i q; cases q <;> rfl)) | (simp only [valK_ite, hid1_eq]; done))
theorem eqppA_same {neg : Bool} {l o : Nat} (h : isCells s l = true) : eqppA neg s (.ptr l o) (.ptr l o) = some (.v (.bool (!neg))) := by simp [eqppA, h]
theorem eqppA_nil {neg : Bool} {l o : Nat} : eqppA neg s (.ptr l o) (.v (.pointer none)) = some (.v (.bool neg)) := rfl
theorem eqppA_nil2 {neg : Bool} {l o : Nat} : eqppA neg s (.v (.pointer none)) (.ptr l o) = some (.v (.bool neg)) := rfl
theorem eqppA_nn {neg : Bool} : eqppA neg s (.v (.pointer none)) (.v (.pointer none)) = some (.v (.bool (!neg))) := rfl
end
theorem beq_tt : (true == true) = true := rfl
theorem beq_tf : (true == false) = false := rfl
theorem beq_ft : (false == true) = false := rfl
theorem beq_ff : (false == false) = true := rfl
/-! bundles -/
def rK :=
  And.intro @G_clo <|
  And.intro @G_callV <|
  And.intro @G_mki <|
  And.intro @G_asrt <|
  And.intro @G_eqi <|
  And.intro @G_eqfn <|
  And.intro @G_pan <|
  And.intro @G_rngS <|
  And.intro @G_nxtS <|
  And.intro @G_s2bM <|
  And.intro @G_allocT <|
  And.intro @G_appT <|
  And.intro @G_toU <|
  And.intro @G_frU <|
  And.intro @G_sdat <|
  And.intro @G_ustr <|
  And.intro @G_storeX <|
  And.intro @G_eqpp <|
  @awp_refuse
def rM :=
  And.intro @beq_tt <|
  And.intro @beq_tf <|
  And.intro @beq_ft <|
  And.intro @beq_ff <|
  And.intro @asrtA_yes <|
  And.intro @asrtA_no <|
  And.intro @asrtA_nil <|
  And.intro @asrtA_one <|
  And.intro @eqiA_some <|
  And.intro @eqiA_nil <|
  And.intro @eqfnA_some <|
  And.intro @eqfnA_nil <|
  And.intro @rngS_str <|
  And.intro @sdatA_nil <|
  And.intro @sdatA_mb <|
  And.intro @Hp.read_set_tc <|
  And.intro @cells_clo <|
  And.intro @nilcA_clo <|
  And.intro @eqppA_same <|
  And.intro @eqppA_nil <|
  And.intro @eqppA_nil2 <|
  @eqppA_nn
end Go.Av
/-
  Runes of a text; what the lexer's small functions compute.
-/
set_option maxRecDepth 100000
namespace Go.Proofs.YtpbicmjkjihhnaaDoor
open Go Go.Av

def blankR (c : Int) : Bool := decide (c = 32) || (decide (c = 9) || (decide (c = 10) || decide (c = 13)))
def letterR (c : Int) : Bool := (decide (97 ≤ c) && decide (c ≤ 122)) || (decide (65 ≤ c) && decide (c ≤ 90))
def digitR (c : Int) : Bool := decide (48 ≤ c) && decide (c ≤ 57)
def wordR (c : Int) : Bool := letterR c || (digitR c || decide (c = 95))
def lineR (c : Int) : Bool := !decide (c = 10)

theorem get_mk (l : List UInt8) (i : Nat) (h : i < l.length) : (⟨l.toArray⟩ : ByteArray).get! i = l[i] := by
  simp [ByteArray.get!, h]
theorem decode_low (l : List UInt8) (i : Nat) (h : i < l.length) (hb : l[i].toNat < 128) : Utf8.decode ⟨l.toArray⟩ i = (l[i].toNat, 1) := by
  simp [Utf8.decode, get_mk l i h, hb]
theorem decode_high (l : List UInt8) (i : Nat) (h : i < l.length) (hb : 128 ≤ l[i].toNat) :
    128 ≤ (Utf8.decode ⟨l.toArray⟩ i).1 ∧ (Utf8.decode ⟨l.toArray⟩ i).1 ≤ 1114111 ∧ 1 ≤ (Utf8.decode ⟨l.toArray⟩ i).2 ∧ i + (Utf8.decode ⟨l.toArray⟩ i).2 ≤ l.length ∧
      ∀ j, (hj : j < l.length) → i ≤ j → j < i + (Utf8.decode ⟨l.toArray⟩ i).2 → 128 ≤ l[j].toNat := by
  have hone : ∀ j, (hj : j < l.length) → i ≤ j → j < i + 1 → 128 ≤ l[j].toNat := fun j hj h1 h2 => by
    have : j = i := by omega
    subst this; exact hb
  have hcont : ∀ k, (i + k < l.length ∧ ((⟨l.toArray⟩ : ByteArray).get! (i + k)).toNat / 64 = 2) → ∃ h : i + k < l.length, 128 ≤ l[i + k].toNat := fun k hk => by
    obtain ⟨h1, h2⟩ := hk
    rw [get_mk l _ h1] at h2
    exact ⟨h1, by omega⟩
  have hsz : (⟨l.toArray⟩ : ByteArray).size = l.length := size_str l
  have e0 : ((⟨l.toArray⟩ : ByteArray).get! (i + 0)).toNat = l[i].toNat := by rw [Nat.add_zero, get_mk l i h]
  have hlt : l[i].toNat < 256 := l[i].toNat_lt
  unfold Utf8.decode
  simp only [e0, hsz]
  rw [if_neg (by omega)]
  have v : ∀ c : Nat, Utf8.valid (c : Int) = true → c ≤ 1114111 := fun c hc => by
    simp only [Utf8.valid, Bool.or_eq_true, Bool.and_eq_true, decide_eq_true_eq] at hc
    omega
  split
  · rename_i hc
    simp only [Bool.and_eq_true, decide_eq_true_eq, beq_iff_eq] at hc
    obtain ⟨hc0, hc1⟩ := hc
    obtain ⟨q1, q2⟩ := hcont 1 hc1
    split
    · rename_i hge
      refine ⟨by simpa using hge, ?_, by simp, by simp; omega, fun j hj h1 h2 => ?_⟩
      · simp only; omega
      · rcases (by simp only at h2; omega : j = i ∨ j = i + 1) with rfl | rfl
        · exact hb
        · exact q2
    · exact ⟨by simp [Utf8.runeError], by simp [Utf8.runeError], by simp, by simp; omega, hone⟩
  · split
    · rename_i hc
      simp only [Bool.and_eq_true, decide_eq_true_eq, beq_iff_eq] at hc
      obtain ⟨⟨hc0, hc1⟩, hc2⟩ := hc
      obtain ⟨q1, q2⟩ := hcont 1 hc1
      obtain ⟨q3, q4⟩ := hcont 2 hc2
      split
      · rename_i hge
        simp only [Bool.and_eq_true, decide_eq_true_eq] at hge
        refine ⟨by simp only; omega, v _ hge.2, by simp, by simp; omega, fun j hj h1 h2 => ?_⟩
        rcases (by simp only at h2; omega : j = i ∨ j = i + 1 ∨ j = i + 2) with rfl | rfl | rfl
        · exact hb
        · exact q2
        · exact q4
      · exact ⟨by simp [Utf8.runeError], by simp [Utf8.runeError], by simp, by simp; omega, hone⟩
    · split
      · rename_i hc
        simp only [Bool.and_eq_true, decide_eq_true_eq, beq_iff_eq] at hc
        obtain ⟨⟨⟨hc0, hc1⟩, hc2⟩, hc3⟩ := hc
        obtain ⟨q1, q2⟩ := hcont 1 hc1
        obtain ⟨q3, q4⟩ := hcont 2 hc2
        obtain ⟨q5, q6⟩ := hcont 3 hc3
        split
        · rename_i hge
          simp only [Bool.and_eq_true, decide_eq_true_eq] at hge
          refine ⟨by simp only; omega, v _ hge.2, by simp, by simp; omega, fun j hj h1 h2 => ?_⟩
          rcases (by simp only at h2; omega : j = i ∨ j = i + 1 ∨ j = i + 2 ∨ j = i + 3) with rfl | rfl | rfl | rfl
          · exact hb
          · exact q2
          · exact q4
          · exact q6
        · exact ⟨by simp [Utf8.runeError], by simp [Utf8.runeError], by simp, by simp; omega, hone⟩
      · exact ⟨by simp [Utf8.runeError], by simp [Utf8.runeError], by simp, by simp; omega, hone⟩

/-- the first rune; -1 of nothing -/
def fst (l : List UInt8) : Int := if l.isEmpty then -1 else ((Utf8.decode ⟨l.toArray⟩ 0).1 : Int)
theorem fst_nil : fst [] = -1 := rfl
theorem fst_low {b : UInt8} {r : List UInt8} (h : b.toNat < 128) : fst (b :: r) = b.toNat := by
  have := decode_low (b :: r) 0 (by simp) (by simpa using h)
  simp only [fst, List.isEmpty_cons, Bool.false_eq_true, if_false, this]; rfl
theorem fst_high {b : UInt8} {r : List UInt8} (h : 128 ≤ b.toNat) : 128 ≤ fst (b :: r) := by
  have := (decode_high (b :: r) 0 (by simp) (by simpa using h)).1
  simp only [fst, List.isEmpty_cons, Bool.false_eq_true, if_false]; omega
theorem fst_range (l : List UInt8) : -1 ≤ fst l ∧ fst l ≤ 1114111 := by
  cases l with
  | nil => simp [fst]
  | cons b r =>
    by_cases h : b.toNat < 128
    · rw [fst_low h]; omega
    · have := (decode_high (b :: r) 0 (by simp) (by simp; omega))
      simp only [fst, List.isEmpty_cons, Bool.false_eq_true, if_false]; omega

/-- a predicate that looks at runes below 128 alone, asked of a text's first rune, is the byte's -/
theorem fst_pred {p : Int → Bool} (h1 : p (-1) = false) (h2 : ∀ c, 128 ≤ c → p c = false) (l : List UInt8) : p (fst l) = (match l with | [] => false | b :: _ => p b.toNat) := by
  cases l with
  | nil => exact h1
  | cons b r =>
    by_cases h : b.toNat < 128
    · rw [fst_low h]
    · simp only
      rw [h2 _ (fst_high (by omega)), h2 _ (by omega)]

theorem blankR_hi (c : Int) (h : 128 ≤ c) : blankR c = false := by simp [blankR]; omega
theorem letterR_hi (c : Int) (h : 128 ≤ c) : letterR c = false := by simp [letterR]; omega
theorem digitR_hi (c : Int) (h : 128 ≤ c) : digitR c = false := by simp [digitR]; omega
theorem wordR_hi (c : Int) (h : 128 ≤ c) : wordR c = false := by simp [wordR, letterR_hi c h, digitR_hi c h]; omega
theorem lineR_hi (c : Int) (h : 128 ≤ c) : lineR c = true := by simp [lineR]; omega

/-- the bytes ahead that hold -/
def tw (p : Int → Bool) (l : List UInt8) : List UInt8 := l.takeWhile fun b => p b.toNat
theorem tw_le (p : Int → Bool) (l : List UInt8) : (tw p l).length ≤ l.length := (List.takeWhile_prefix _).length_le

theorem tw_all {p : Int → Bool} : ∀ (l : List UInt8) (n : Nat), n ≤ l.length → (∀ j, (h : j < l.length) → j < n → p l[j].toNat = true) → n ≤ (tw p l).length
  | _, 0, _, _ => Nat.zero_le _
  | [], n + 1, h, _ => by simp at h
  | b :: l, n + 1, h, hp => by
    have h0 := hp 0 (by simp) (by omega)
    simp only [List.getElem_cons_zero] at h0
    have := tw_all l n (by simp at h; omega) (fun j hj hjn => by
      have := hp (j + 1) (by simp; omega) (by omega)
      simpa using this)
    simp only [tw] at this ⊢
    rw [List.takeWhile_cons, h0]
    simpa using this
theorem tw_stop {p : Int → Bool} (l : List UInt8) (n : Nat) (hn : n < l.length) (hp : ∀ j, (h : j < l.length) → j < n → p l[j].toNat = true) (hs : p l[n].toNat = false) : (tw p l).length = n := by
  have h1 := tw_all l n (by omega) hp
  rcases Nat.lt_or_ge n (tw p l).length with h | h
  · exfalso
    have hm : (tw p l)[n] ∈ tw p l := List.getElem_mem h
    have hall := List.all_takeWhile (p := fun b : UInt8 => p b.toNat) (l := l)
    have h2 := List.all_eq_true.1 hall _ hm
    have h3 : (tw p l)[n] = l[n] := by
      have hpre : tw p l <+: l := List.takeWhile_prefix _
      exact List.IsPrefix.getElem hpre h
    rw [h3, hs] at h2; cases h2
  · omega

/-! ### the predicates -/
theorem isLetter_spec (c : Int) (s : Hp) : AC Tryd.prog 28 [.v (.int .i32 c)] s fun r s' => s' = s ∧ r = .v (.bool (letterR c)) := by
  refine AC_run hm prep28 (by simp) ?_
  by_cases h1 : 97 ≤ c
  · by_cases h2 : c ≤ 122
    · simp (dsimp := false) (implicitDefEqProofs := false) (maxSteps := 1000000) (disch := first | omega | assumption | (simp only [rL, Nat.reduceAdd]; done) | (simp only [rL, Nat.reduceAdd]; omega)) only [↓rD, rU, ev, ofConst, ofCell, ↓reduceIte, Nat.reduceEqDiff, Nat.reduceAdd, Nat.reduceSub, Nat.reduceMul, Nat.reduceLeDiff, Nat.reduceLT, Int.reduceNeg, Int.reduceToNat, Int.reduceAdd, Int.reduceSub, Int.reduceMul, Int.reduceLT, Int.reduceLE, Int.reduceEq, rX, List.drop_succ_cons, ↓rF, rG, ne_eq, not_true_eq_false, not_false_eq_true, Int.reduceNe, List.getElem?_cons_zero, List.getElem?_cons_succ, ↓rK, rM, h1, h2]
      exact ⟨_, Hp.sub_refl, rfl, by simp [letterR, h1, h2]⟩
    · have h3 : ¬ c ≤ 90 := by omega
      have h4 : 65 ≤ c := by omega
      simp (dsimp := false) (implicitDefEqProofs := false) (maxSteps := 1000000) (disch := first | omega | assumption | (simp only [rL, Nat.reduceAdd]; done) | (simp only [rL, Nat.reduceAdd]; omega)) only [↓rD, rU, ev, ofConst, ofCell, ↓reduceIte, Nat.reduceEqDiff, Nat.reduceAdd, Nat.reduceSub, Nat.reduceMul, Nat.reduceLeDiff, Nat.reduceLT, Int.reduceNeg, Int.reduceToNat, Int.reduceAdd, Int.reduceSub, Int.reduceMul, Int.reduceLT, Int.reduceLE, Int.reduceEq, rX, List.drop_succ_cons, ↓rF, rG, ne_eq, not_true_eq_false, not_false_eq_true, Int.reduceNe, List.getElem?_cons_zero, List.getElem?_cons_succ, ↓rK, rM, h1, h2, h3, h4]
      exact ⟨_, Hp.sub_refl, rfl, by simp [letterR, h2, h3]⟩
  · by_cases h3 : 65 ≤ c
    · by_cases h4 : c ≤ 90
      · simp (dsimp := false) (implicitDefEqProofs := false) (maxSteps := 1000000) (disch := first | omega | assumption | (simp only [rL, Nat.reduceAdd]; done) | (simp only [rL, Nat.reduceAdd]; omega)) only [↓rD, rU, ev, ofConst, ofCell, ↓reduceIte, Nat.reduceEqDiff, Nat.reduceAdd, Nat.reduceSub, Nat.reduceMul, Nat.reduceLeDiff, Nat.reduceLT, Int.reduceNeg, Int.reduceToNat, Int.reduceAdd, Int.reduceSub, Int.reduceMul, Int.reduceLT, Int.reduceLE, Int.reduceEq, rX, List.drop_succ_cons, ↓rF, rG, ne_eq, not_true_eq_false, not_false_eq_true, Int.reduceNe, List.getElem?_cons_zero, List.getElem?_cons_succ, ↓rK, rM, h1, h3, h4]
        exact ⟨_, Hp.sub_refl, rfl, by simp [letterR, h3, h4]⟩
      · simp (dsimp := false) (implicitDefEqProofs := false) (maxSteps := 1000000) (disch := first | omega | assumption | (simp only [rL, Nat.reduceAdd]; done) | (simp only [rL, Nat.reduceAdd]; omega)) only [↓rD, rU, ev, ofConst, ofCell, ↓reduceIte, Nat.reduceEqDiff, Nat.reduceAdd, Nat.reduceSub, Nat.reduceMul, Nat.reduceLeDiff, Nat.reduceLT, Int.reduceNeg, Int.reduceToNat, Int.reduceAdd, Int.reduceSub, Int.reduceMul, Int.reduceLT, Int.reduceLE, Int.reduceEq, rX, List.drop_succ_cons, ↓rF, rG, ne_eq, not_true_eq_false, not_false_eq_true, Int.reduceNe, List.getElem?_cons_zero, List.getElem?_cons_succ, ↓rK, rM, h1, h3, h4]
        exact ⟨_, Hp.sub_refl, rfl, by simp [letterR, h1, h4]⟩
    · simp (dsimp := false) (implicitDefEqProofs := false) (maxSteps := 1000000) (disch := first | omega | assumption | (simp only [rL, Nat.reduceAdd]; done) | (simp only [rL, Nat.reduceAdd]; omega)) only [↓rD, rU, ev, ofConst, ofCell, ↓reduceIte, Nat.reduceEqDiff, Nat.reduceAdd, Nat.reduceSub, Nat.reduceMul, Nat.reduceLeDiff, Nat.reduceLT, Int.reduceNeg, Int.reduceToNat, Int.reduceAdd, Int.reduceSub, Int.reduceMul, Int.reduceLT, Int.reduceLE, Int.reduceEq, rX, List.drop_succ_cons, ↓rF, rG, ne_eq, not_true_eq_false, not_false_eq_true, Int.reduceNe, List.getElem?_cons_zero, List.getElem?_cons_succ, ↓rK, rM, h1, h3]
      exact ⟨_, Hp.sub_refl, rfl, by simp [letterR, h1, h3]⟩
theorem isDigit_spec (c : Int) (s : Hp) : AC Tryd.prog 31 [.v (.int .i32 c)] s fun r s' => s' = s ∧ r = .v (.bool (digitR c)) := by
  refine AC_run hm prep31 (by simp) ?_
  by_cases h1 : 48 ≤ c
  · by_cases h2 : c ≤ 57
    · simp (dsimp := false) (implicitDefEqProofs := false) (maxSteps := 1000000) (disch := first | omega | assumption | (simp only [rL, Nat.reduceAdd]; done) | (simp only [rL, Nat.reduceAdd]; omega)) only [↓rD, rU, ev, ofConst, ofCell, ↓reduceIte, Nat.reduceEqDiff, Nat.reduceAdd, Nat.reduceSub, Nat.reduceMul, Nat.reduceLeDiff, Nat.reduceLT, Int.reduceNeg, Int.reduceToNat, Int.reduceAdd, Int.reduceSub, Int.reduceMul, Int.reduceLT, Int.reduceLE, Int.reduceEq, rX, List.drop_succ_cons, ↓rF, rG, ne_eq, not_true_eq_false, not_false_eq_true, Int.reduceNe, List.getElem?_cons_zero, List.getElem?_cons_succ, ↓rK, rM, h1, h2]
      exact ⟨_, Hp.sub_refl, rfl, by simp [digitR, h1, h2]⟩
    · simp (dsimp := false) (implicitDefEqProofs := false) (maxSteps := 1000000) (disch := first | omega | assumption | (simp only [rL, Nat.reduceAdd]; done) | (simp only [rL, Nat.reduceAdd]; omega)) only [↓rD, rU, ev, ofConst, ofCell, ↓reduceIte, Nat.reduceEqDiff, Nat.reduceAdd, Nat.reduceSub, Nat.reduceMul, Nat.reduceLeDiff, Nat.reduceLT, Int.reduceNeg, Int.reduceToNat, Int.reduceAdd, Int.reduceSub, Int.reduceMul, Int.reduceLT, Int.reduceLE, Int.reduceEq, rX, List.drop_succ_cons, ↓rF, rG, ne_eq, not_true_eq_false, not_false_eq_true, Int.reduceNe, List.getElem?_cons_zero, List.getElem?_cons_succ, ↓rK, rM, h1, h2]
      exact ⟨_, Hp.sub_refl, rfl, by simp [digitR, h2]⟩
  · simp (dsimp := false) (implicitDefEqProofs := false) (maxSteps := 1000000) (disch := first | omega | assumption | (simp only [rL, Nat.reduceAdd]; done) | (simp only [rL, Nat.reduceAdd]; omega)) only [↓rD, rU, ev, ofConst, ofCell, ↓reduceIte, Nat.reduceEqDiff, Nat.reduceAdd, Nat.reduceSub, Nat.reduceMul, Nat.reduceLeDiff, Nat.reduceLT, Int.reduceNeg, Int.reduceToNat, Int.reduceAdd, Int.reduceSub, Int.reduceMul, Int.reduceLT, Int.reduceLE, Int.reduceEq, rX, List.drop_succ_cons, ↓rF, rG, ne_eq, not_true_eq_false, not_false_eq_true, Int.reduceNe, List.getElem?_cons_zero, List.getElem?_cons_succ, ↓rK, rM, h1]
    exact ⟨_, Hp.sub_refl, rfl, by simp [digitR, h1]⟩
theorem isBlank_spec (c : Int) (s : Hp) : AC Tryd.prog 23 [.v (.int .i32 c)] s fun r s' => s' = s ∧ r = .v (.bool (blankR c)) := by
  refine AC_run hm prep23 (by simp) ?_
  by_cases h1 : c = 32
  · subst h1
    simp (dsimp := false) (implicitDefEqProofs := false) (maxSteps := 1000000) (disch := first | omega | assumption | (simp only [rL, Nat.reduceAdd]; done) | (simp only [rL, Nat.reduceAdd]; omega)) only [↓rD, rU, ev, ofConst, ofCell, ↓reduceIte, Nat.reduceEqDiff, Nat.reduceAdd, Nat.reduceSub, Nat.reduceMul, Nat.reduceLeDiff, Nat.reduceLT, Int.reduceNeg, Int.reduceToNat, Int.reduceAdd, Int.reduceSub, Int.reduceMul, Int.reduceLT, Int.reduceLE, Int.reduceEq, rX, List.drop_succ_cons, ↓rF, rG, ne_eq, not_true_eq_false, not_false_eq_true, Int.reduceNe, List.getElem?_cons_zero, List.getElem?_cons_succ, ↓rK, rM]
    exact ⟨_, Hp.sub_refl, rfl, rfl⟩
  · by_cases h2 : c = 9
    · subst h2
      simp (dsimp := false) (implicitDefEqProofs := false) (maxSteps := 1000000) (disch := first | omega | assumption | (simp only [rL, Nat.reduceAdd]; done) | (simp only [rL, Nat.reduceAdd]; omega)) only [↓rD, rU, ev, ofConst, ofCell, ↓reduceIte, Nat.reduceEqDiff, Nat.reduceAdd, Nat.reduceSub, Nat.reduceMul, Nat.reduceLeDiff, Nat.reduceLT, Int.reduceNeg, Int.reduceToNat, Int.reduceAdd, Int.reduceSub, Int.reduceMul, Int.reduceLT, Int.reduceLE, Int.reduceEq, rX, List.drop_succ_cons, ↓rF, rG, ne_eq, not_true_eq_false, not_false_eq_true, Int.reduceNe, List.getElem?_cons_zero, List.getElem?_cons_succ, ↓rK, rM]
      exact ⟨_, Hp.sub_refl, rfl, rfl⟩
    · by_cases h3 : c = 10
      · subst h3
        simp (dsimp := false) (implicitDefEqProofs := false) (maxSteps := 1000000) (disch := first | omega | assumption | (simp only [rL, Nat.reduceAdd]; done) | (simp only [rL, Nat.reduceAdd]; omega)) only [↓rD, rU, ev, ofConst, ofCell, ↓reduceIte, Nat.reduceEqDiff, Nat.reduceAdd, Nat.reduceSub, Nat.reduceMul, Nat.reduceLeDiff, Nat.reduceLT, Int.reduceNeg, Int.reduceToNat, Int.reduceAdd, Int.reduceSub, Int.reduceMul, Int.reduceLT, Int.reduceLE, Int.reduceEq, rX, List.drop_succ_cons, ↓rF, rG, ne_eq, not_true_eq_false, not_false_eq_true, Int.reduceNe, List.getElem?_cons_zero, List.getElem?_cons_succ, ↓rK, rM]
        exact ⟨_, Hp.sub_refl, rfl, rfl⟩
      · simp (dsimp := false) (implicitDefEqProofs := false) (maxSteps := 1000000) (disch := first | omega | assumption | (simp only [rL, Nat.reduceAdd]; done) | (simp only [rL, Nat.reduceAdd]; omega)) only [↓rD, rU, ev, ofConst, ofCell, ↓reduceIte, Nat.reduceEqDiff, Nat.reduceAdd, Nat.reduceSub, Nat.reduceMul, Nat.reduceLeDiff, Nat.reduceLT, Int.reduceNeg, Int.reduceToNat, Int.reduceAdd, Int.reduceSub, Int.reduceMul, Int.reduceLT, Int.reduceLE, Int.reduceEq, rX, List.drop_succ_cons, ↓rF, rG, ne_eq, not_true_eq_false, not_false_eq_true, Int.reduceNe, List.getElem?_cons_zero, List.getElem?_cons_succ, ↓rK, rM, h1, h2, h3]
        exact ⟨_, Hp.sub_refl, rfl, by simp [blankR, h1, h2, h3]⟩
theorem inWord_spec (c : Int) (s : Hp) : AC Tryd.prog 29 [.v (.int .i32 c)] s fun r s' => s' = s ∧ r = .v (.bool (wordR c)) := by
  refine AC_run hm prep29 (by simp) ?_
  simp (dsimp := false) (implicitDefEqProofs := false) (maxSteps := 1000000) (disch := first | omega | assumption | (simp only [rL, Nat.reduceAdd]; done) | (simp only [rL, Nat.reduceAdd]; omega)) only [↓rD, rU, ev, ofConst, ofCell, ↓reduceIte, Nat.reduceEqDiff, Nat.reduceAdd, Nat.reduceSub, Nat.reduceMul, Nat.reduceLeDiff, Nat.reduceLT, Int.reduceNeg, Int.reduceToNat, Int.reduceAdd, Int.reduceSub, Int.reduceMul, Int.reduceLT, Int.reduceLE, Int.reduceEq, rX, List.drop_succ_cons, ↓rF, rG, ne_eq, not_true_eq_false, not_false_eq_true, Int.reduceNe, List.getElem?_cons_zero, List.getElem?_cons_succ, ↓rK, rM]
  refine call_intro (isLetter_spec c _) ?_
  rintro _ _ ⟨rfl, rfl⟩
  cases h1 : letterR c with
  | true =>
    simp (dsimp := false) (implicitDefEqProofs := false) (maxSteps := 1000000) (disch := first | omega | assumption | (simp only [rL, Nat.reduceAdd]; done) | (simp only [rL, Nat.reduceAdd]; omega)) only [↓rD, rU, ev, ofConst, ofCell, ↓reduceIte, Nat.reduceEqDiff, Nat.reduceAdd, Nat.reduceSub, Nat.reduceMul, Nat.reduceLeDiff, Nat.reduceLT, Int.reduceNeg, Int.reduceToNat, Int.reduceAdd, Int.reduceSub, Int.reduceMul, Int.reduceLT, Int.reduceLE, Int.reduceEq, rX, List.drop_succ_cons, ↓rF, rG, ne_eq, not_true_eq_false, not_false_eq_true, Int.reduceNe, List.getElem?_cons_zero, List.getElem?_cons_succ, ↓rK, rM, h1]
    exact ⟨_, Hp.sub_refl, rfl, by simp [wordR, h1]⟩
  | false =>
    simp (dsimp := false) (implicitDefEqProofs := false) (maxSteps := 1000000) (disch := first | omega | assumption | (simp only [rL, Nat.reduceAdd]; done) | (simp only [rL, Nat.reduceAdd]; omega)) only [↓rD, rU, ev, ofConst, ofCell, ↓reduceIte, Nat.reduceEqDiff, Nat.reduceAdd, Nat.reduceSub, Nat.reduceMul, Nat.reduceLeDiff, Nat.reduceLT, Int.reduceNeg, Int.reduceToNat, Int.reduceAdd, Int.reduceSub, Int.reduceMul, Int.reduceLT, Int.reduceLE, Int.reduceEq, rX, List.drop_succ_cons, ↓rF, rG, ne_eq, not_true_eq_false, not_false_eq_true, Int.reduceNe, List.getElem?_cons_zero, List.getElem?_cons_succ, ↓rK, rM, h1]
    refine call_intro (isDigit_spec c _) ?_
    rintro _ _ ⟨rfl, rfl⟩
    cases h2 : digitR c with
    | true =>
      simp (dsimp := false) (implicitDefEqProofs := false) (maxSteps := 1000000) (disch := first | omega | assumption | (simp only [rL, Nat.reduceAdd]; done) | (simp only [rL, Nat.reduceAdd]; omega)) only [↓rD, rU, ev, ofConst, ofCell, ↓reduceIte, Nat.reduceEqDiff, Nat.reduceAdd, Nat.reduceSub, Nat.reduceMul, Nat.reduceLeDiff, Nat.reduceLT, Int.reduceNeg, Int.reduceToNat, Int.reduceAdd, Int.reduceSub, Int.reduceMul, Int.reduceLT, Int.reduceLE, Int.reduceEq, rX, List.drop_succ_cons, ↓rF, rG, ne_eq, not_true_eq_false, not_false_eq_true, Int.reduceNe, List.getElem?_cons_zero, List.getElem?_cons_succ, ↓rK, rM, h2]
      exact ⟨_, Hp.sub_refl, rfl, by simp [wordR, h1, h2]⟩
    | false =>
      simp (dsimp := false) (implicitDefEqProofs := false) (maxSteps := 1000000) (disch := first | omega | assumption | (simp only [rL, Nat.reduceAdd]; done) | (simp only [rL, Nat.reduceAdd]; omega)) only [↓rD, rU, ev, ofConst, ofCell, ↓reduceIte, Nat.reduceEqDiff, Nat.reduceAdd, Nat.reduceSub, Nat.reduceMul, Nat.reduceLeDiff, Nat.reduceLT, Int.reduceNeg, Int.reduceToNat, Int.reduceAdd, Int.reduceSub, Int.reduceMul, Int.reduceLT, Int.reduceLE, Int.reduceEq, rX, List.drop_succ_cons, ↓rF, rG, ne_eq, not_true_eq_false, not_false_eq_true, Int.reduceNe, List.getElem?_cons_zero, List.getElem?_cons_succ, ↓rK, rM, h2]
      exact ⟨_, Hp.sub_refl, rfl, by simp [wordR, h1, h2]⟩
theorem inLine_spec (c : Int) (s : Hp) : AC Tryd.prog 27 [.v (.int .i32 c)] s fun r s' => s' = s ∧ r = .v (.bool (lineR c)) := by
  refine AC_run hm prep27 (by simp) ?_
  simp (dsimp := false) (implicitDefEqProofs := false) (maxSteps := 1000000) (disch := first | omega | assumption | (simp only [rL, Nat.reduceAdd]; done) | (simp only [rL, Nat.reduceAdd]; omega)) only [↓rD, rU, ev, ofConst, ofCell, ↓reduceIte, Nat.reduceEqDiff, Nat.reduceAdd, Nat.reduceSub, Nat.reduceMul, Nat.reduceLeDiff, Nat.reduceLT, Int.reduceNeg, Int.reduceToNat, Int.reduceAdd, Int.reduceSub, Int.reduceMul, Int.reduceLT, Int.reduceLE, Int.reduceEq, rX, List.drop_succ_cons, ↓rF, rG, ne_eq, not_true_eq_false, not_false_eq_true, Int.reduceNe, List.getElem?_cons_zero, List.getElem?_cons_succ, ↓rK, rM]
  exact ⟨_, Hp.sub_refl, rfl, by simp [lineR]⟩
end Go.Proofs.YtpbicmjkjihhnaaDoor
/-
  lex.first, lex.far, lex.blanks.
-/
set_option maxRecDepth 100000
namespace Go.Proofs.YtpbicmjkjihhnaaDoor
open Go Go.Av

theorem first_spec (l : List UInt8) (s : Hp) : AC Tryd.prog 24 [strV l] s fun r s' => s.sub s' ∧ r = .v (.int .i32 (fst l)) := by
  refine AC_run hm prep24 (by simp) ?_
  simp (dsimp := false) (implicitDefEqProofs := false) (maxSteps := 1000000) (disch := first | omega | assumption | (simp only [rL, Nat.reduceAdd]; done) | (simp only [rL, Nat.reduceAdd]; omega)) only [↓rD, rU, ev, ofConst, ofCell, ↓reduceIte, Nat.reduceEqDiff, Nat.reduceAdd, Nat.reduceSub, Nat.reduceMul, Nat.reduceLeDiff, Nat.reduceLT, Int.reduceNeg, Int.reduceToNat, Int.reduceAdd, Int.reduceSub, Int.reduceMul, Int.reduceLT, Int.reduceLE, Int.reduceEq, rX, List.drop_succ_cons, ↓rF, rG, ne_eq, not_true_eq_false, not_false_eq_true, Int.reduceNe, List.getElem?_cons_zero, List.getElem?_cons_succ, ↓rK, rM, strV]
  refine newK_intro fun li ni => ?_
  simp (dsimp := false) (implicitDefEqProofs := false) (maxSteps := 1000000) (disch := first | omega | assumption | (simp only [rL, Nat.reduceAdd]; done) | (simp only [rL, Nat.reduceAdd]; omega)) only [↓rD, rU, ev, ofConst, ofCell, ↓reduceIte, Nat.reduceEqDiff, Nat.reduceAdd, Nat.reduceSub, Nat.reduceMul, Nat.reduceLeDiff, Nat.reduceLT, Int.reduceNeg, Int.reduceToNat, Int.reduceAdd, Int.reduceSub, Int.reduceMul, Int.reduceLT, Int.reduceLE, Int.reduceEq, rX, List.drop_succ_cons, ↓rF, rG, ne_eq, not_true_eq_false, not_false_eq_true, Int.reduceNe, List.getElem?_cons_zero, List.getElem?_cons_succ, ↓rK, rM, strV]
  refine loop_intro (fun f s' => s' = s.set li (.it ⟨l.toArray⟩ 0) ∧ f 6 = .ptr li 0) (fun _ _ => 0) ?_ ?_
  · simp (dsimp := false) (implicitDefEqProofs := false) (maxSteps := 1000000) (disch := first | omega | assumption | (simp only [rL, Nat.reduceAdd]; done) | (simp only [rL, Nat.reduceAdd]; omega)) only [↓rD, rU, ev, ofConst, ofCell, ↓reduceIte, Nat.reduceEqDiff, Nat.reduceAdd, Nat.reduceSub, Nat.reduceMul, Nat.reduceLeDiff, Nat.reduceLT, Int.reduceNeg, Int.reduceToNat, Int.reduceAdd, Int.reduceSub, Int.reduceMul, Int.reduceLT, Int.reduceLE, Int.reduceEq, rX, List.drop_succ_cons, ↓rF, rG, ne_eq, not_true_eq_false, not_false_eq_true, Int.reduceNe, List.getElem?_cons_zero, List.getElem?_cons_succ, ↓rK, rM]
  · rintro f _ ⟨rfl, f6⟩
    simp (dsimp := false) (implicitDefEqProofs := false) (maxSteps := 1000000) (disch := first | omega | assumption | (simp only [rL, Nat.reduceAdd]; done) | (simp only [rL, Nat.reduceAdd]; omega)) only [↓rD, rU, ev, ofConst, ofCell, ↓reduceIte, Nat.reduceEqDiff, Nat.reduceAdd, Nat.reduceSub, Nat.reduceMul, Nat.reduceLeDiff, Nat.reduceLT, Int.reduceNeg, Int.reduceToNat, Int.reduceAdd, Int.reduceSub, Int.reduceMul, Int.reduceLT, Int.reduceLE, Int.reduceEq, rX, List.drop_succ_cons, ↓rF, rG, ne_eq, not_true_eq_false, not_false_eq_true, Int.reduceNe, List.getElem?_cons_zero, List.getElem?_cons_succ, ↓rK, rM, f6]
    by_cases h0 : 0 < l.length
    · refine nxtS_some (Hp.set_same _ _ _) h0 ?_
      simp (dsimp := false) (implicitDefEqProofs := false) (maxSteps := 1000000) (disch := first | omega | assumption | (simp only [rL, Nat.reduceAdd]; done) | (simp only [rL, Nat.reduceAdd]; omega)) only [↓rD, rU, ev, ofConst, ofCell, ↓reduceIte, Nat.reduceEqDiff, Nat.reduceAdd, Nat.reduceSub, Nat.reduceMul, Nat.reduceLeDiff, Nat.reduceLT, Int.reduceNeg, Int.reduceToNat, Int.reduceAdd, Int.reduceSub, Int.reduceMul, Int.reduceLT, Int.reduceLE, Int.reduceEq, rX, List.drop_succ_cons, ↓rF, rG, ne_eq, not_true_eq_false, not_false_eq_true, Int.reduceNe, List.getElem?_cons_zero, List.getElem?_cons_succ, ↓rK, rM, f6]
      have e : ((Utf8.decode ⟨l.toArray⟩ 0).1 : Int) = fst l := by
        cases l with
        | nil => simp at h0
        | cons b r => rfl
      exact ⟨_, Hp.sub_refl, Hp.sub_new Hp.sub_refl ni, by rw [e]⟩
    · refine nxtS_none (Hp.set_same _ _ _) h0 ?_
      simp (dsimp := false) (implicitDefEqProofs := false) (maxSteps := 1000000) (disch := first | omega | assumption | (simp only [rL, Nat.reduceAdd]; done) | (simp only [rL, Nat.reduceAdd]; omega)) only [↓rD, rU, ev, ofConst, ofCell, ↓reduceIte, Nat.reduceEqDiff, Nat.reduceAdd, Nat.reduceSub, Nat.reduceMul, Nat.reduceLeDiff, Nat.reduceLT, Int.reduceNeg, Int.reduceToNat, Int.reduceAdd, Int.reduceSub, Int.reduceMul, Int.reduceLT, Int.reduceLE, Int.reduceEq, rX, List.drop_succ_cons, ↓rF, rG, ne_eq, not_true_eq_false, not_false_eq_true, Int.reduceNe, List.getElem?_cons_zero, List.getElem?_cons_succ, ↓rK, rM, f6]
      obtain rfl : l = [] := List.eq_nil_of_length_eq_zero (by omega)
      exact ⟨_, Hp.sub_refl, Hp.sub_new Hp.sub_refl ni, rfl⟩

/-- a function value that answers p, and turns nothing -/
def Pays (s : Hp) (F : AV) (p : Int → Bool) : Prop :=
  ∃ g ds cs, F = .clo g ds cs ∧ callOk Tryd.prog g = true ∧ ∀ (c : Int) (s' : Hp), s.sub s' → AC Tryd.prog g (ds ++ [.v (.int .i32 c)] ++ cs) s' fun r s'' => s'' = s' ∧ r = .v (.bool (p c))
theorem Pays.mono {s s2 : Hp} {F : AV} {p : Int → Bool} (h : Pays s F p) (hs : s.sub s2) : Pays s2 F p := by
  obtain ⟨g, ds, cs, h1, h2, h3⟩ := h
  exact ⟨g, ds, cs, h1, h2, fun c s' hs' => h3 c s' (Hp.sub_trans hs hs')⟩
theorem pays_of {s : Hp} {g : Nat} {p : Int → Bool} (h : callOk Tryd.prog g = true) (hs : ∀ (c : Int) (s' : Hp), AC Tryd.prog g [.v (.int .i32 c)] s' fun r s'' => s'' = s' ∧ r = .v (.bool (p c))) : Pays s (.clo g [] []) p :=
  ⟨g, [], [], rfl, h, fun c s' _ => hs c s'⟩

theorem not_spec (F : AV) (p : Int → Bool) (l : Nat) (s : Hp) (hp : Pays s F p) (hl : s l = some (.cells [F])) : Pays s (.clo 35 [] [.ptr l 0]) (fun c => !p c) := by
  obtain ⟨g, ds, cs, rfl, hok, hc⟩ := hp
  refine ⟨_, [], [.ptr l 0], rfl, by kernel_rfl, fun c s' hs' => ?_⟩
  have hl' := hs' _ _ hl
  refine AC_run hm prep35 (by simp) ?_
  have e : mkv false 1 [AV.clo g ds cs] = .clo g ds cs := rfl
  have e1 : ([] ++ [AV.v (.int .i32 c)] ++ [.ptr l 0]) = [AV.v (.int .i32 c), .ptr l 0] := rfl
  rw [e1]
  simp (dsimp := false) (implicitDefEqProofs := false) (maxSteps := 1000000) (disch := first | omega | assumption | (simp only [rL, Nat.reduceAdd]; done) | (simp only [rL, Nat.reduceAdd]; omega)) only [↓rD, rU, ev, ofConst, ofCell, ↓reduceIte, Nat.reduceEqDiff, Nat.reduceAdd, Nat.reduceSub, Nat.reduceMul, Nat.reduceLeDiff, Nat.reduceLT, Int.reduceNeg, Int.reduceToNat, Int.reduceAdd, Int.reduceSub, Int.reduceMul, Int.reduceLT, Int.reduceLE, Int.reduceEq, rX, List.drop_succ_cons, ↓rF, rG, ne_eq, not_true_eq_false, not_false_eq_true, Int.reduceNe, List.getElem?_cons_zero, List.getElem?_cons_succ, ↓rK, rM, Hp.read_of hl', e]
  refine callV_intro hok (hc c s' hs') ?_
  rintro _ _ ⟨rfl, rfl⟩
  simp (dsimp := false) (implicitDefEqProofs := false) (maxSteps := 1000000) (disch := first | omega | assumption | (simp only [rL, Nat.reduceAdd]; done) | (simp only [rL, Nat.reduceAdd]; omega)) only [↓rD, rU, ev, ofConst, ofCell, ↓reduceIte, Nat.reduceEqDiff, Nat.reduceAdd, Nat.reduceSub, Nat.reduceMul, Nat.reduceLeDiff, Nat.reduceLT, Int.reduceNeg, Int.reduceToNat, Int.reduceAdd, Int.reduceSub, Int.reduceMul, Int.reduceLT, Int.reduceLE, Int.reduceEq, rX, List.drop_succ_cons, ↓rF, rG, ne_eq, not_true_eq_false, not_false_eq_true, Int.reduceNe, List.getElem?_cons_zero, List.getElem?_cons_succ, ↓rK, rM]
  exact ⟨_, Hp.sub_refl, rfl⟩

/-- where the runes end that hold -/
def stopAt (p : Int → Bool) (l : List UInt8) : Int := if (tw p l).length = l.length then -1 else ((tw p l).length : Int)

theorem indexFunc_spec (p : Int → Bool) (hi : Bool) (hp : ∀ c, 128 ≤ c → p c = hi) (l : List UInt8) (F : AV) (s : Hp) (hl : l.length ≤ 1099511627776) (hF : Pays s F fun c => !p c) :
    AC Tryd.prog 44 [strV l, F, .v (.bool true)] s fun r s' => s.sub s' ∧ r = .v (.int .i64 (stopAt p l)) := by
  obtain ⟨g, ds, cs, rfl, hok, hc⟩ := hF
  refine AC_run hm prep44 (by simp) ?_
  simp (dsimp := false) (implicitDefEqProofs := false) (maxSteps := 1000000) (disch := first | omega | assumption | (simp only [rL, Nat.reduceAdd]; done) | (simp only [rL, Nat.reduceAdd]; omega)) only [↓rD, rU, ev, ofConst, ofCell, ↓reduceIte, Nat.reduceEqDiff, Nat.reduceAdd, Nat.reduceSub, Nat.reduceMul, Nat.reduceLeDiff, Nat.reduceLT, Int.reduceNeg, Int.reduceToNat, Int.reduceAdd, Int.reduceSub, Int.reduceMul, Int.reduceLT, Int.reduceLE, Int.reduceEq, rX, List.drop_succ_cons, ↓rF, rG, ne_eq, not_true_eq_false, not_false_eq_true, Int.reduceNe, List.getElem?_cons_zero, List.getElem?_cons_succ, ↓rK, rM, strV]
  refine newK_intro fun li ni => ?_
  simp (dsimp := false) (implicitDefEqProofs := false) (maxSteps := 1000000) (disch := first | omega | assumption | (simp only [rL, Nat.reduceAdd]; done) | (simp only [rL, Nat.reduceAdd]; omega)) only [↓rD, rU, ev, ofConst, ofCell, ↓reduceIte, Nat.reduceEqDiff, Nat.reduceAdd, Nat.reduceSub, Nat.reduceMul, Nat.reduceLeDiff, Nat.reduceLT, Int.reduceNeg, Int.reduceToNat, Int.reduceAdd, Int.reduceSub, Int.reduceMul, Int.reduceLT, Int.reduceLE, Int.reduceEq, rX, List.drop_succ_cons, ↓rF, rG, ne_eq, not_true_eq_false, not_false_eq_true, Int.reduceNe, List.getElem?_cons_zero, List.getElem?_cons_succ, ↓rK, rM, strV]
  refine loop_intro (fun f s' => ∃ pos : Nat, pos ≤ l.length ∧ s' = s.set li (.it ⟨l.toArray⟩ pos) ∧ f 1 = .clo g ds cs ∧ f 2 = .v (.bool true) ∧ f 10 = .ptr li 0 ∧ ∀ j, (h : j < l.length) → j < pos → p l[j].toNat = true)
    (fun _ s' => match s' li with | some (.it _ pos) => l.length - pos | _ => 0) ⟨0, by omega, rfl, ?_⟩ ?_
  · simp (dsimp := false) (implicitDefEqProofs := false) (maxSteps := 1000000) (disch := first | omega | assumption | (simp only [rL, Nat.reduceAdd]; done) | (simp only [rL, Nat.reduceAdd]; omega)) only [↓rD, rU, ev, ofConst, ofCell, ↓reduceIte, Nat.reduceEqDiff, Nat.reduceAdd, Nat.reduceSub, Nat.reduceMul, Nat.reduceLeDiff, Nat.reduceLT, Int.reduceNeg, Int.reduceToNat, Int.reduceAdd, Int.reduceSub, Int.reduceMul, Int.reduceLT, Int.reduceLE, Int.reduceEq, rX, List.drop_succ_cons, ↓rF, rG, ne_eq, not_true_eq_false, not_false_eq_true, Int.reduceNe, List.getElem?_cons_zero, List.getElem?_cons_succ, ↓rK, rM]
    intro j _ h; omega
  · rintro f _ ⟨pos, hpos, rfl, f1, f2, f10, hall⟩
    have hsub : s.sub (s.set li (.it ⟨l.toArray⟩ pos)) := Hp.sub_new Hp.sub_refl ni
    simp (dsimp := false) (implicitDefEqProofs := false) (maxSteps := 1000000) (disch := first | omega | assumption | (simp only [rL, Nat.reduceAdd]; done) | (simp only [rL, Nat.reduceAdd]; omega)) only [↓rD, rU, ev, ofConst, ofCell, ↓reduceIte, Nat.reduceEqDiff, Nat.reduceAdd, Nat.reduceSub, Nat.reduceMul, Nat.reduceLeDiff, Nat.reduceLT, Int.reduceNeg, Int.reduceToNat, Int.reduceAdd, Int.reduceSub, Int.reduceMul, Int.reduceLT, Int.reduceLE, Int.reduceEq, rX, List.drop_succ_cons, ↓rF, rG, ne_eq, not_true_eq_false, not_false_eq_true, Int.reduceNe, List.getElem?_cons_zero, List.getElem?_cons_succ, ↓rK, rM, f10]
    by_cases h0 : pos < l.length
    · refine nxtS_some (Hp.set_same _ _ _) h0 ?_
      rw [Hp.set_set]
      have hsub2 : s.sub (s.set li (.it ⟨l.toArray⟩ (pos + (Utf8.decode ⟨l.toArray⟩ pos).2))) := Hp.sub_new Hp.sub_refl ni
      simp (dsimp := false) (implicitDefEqProofs := false) (maxSteps := 1000000) (disch := first | omega | assumption | (simp only [rL, Nat.reduceAdd]; done) | (simp only [rL, Nat.reduceAdd]; omega)) only [↓rD, rU, ev, ofConst, ofCell, ↓reduceIte, Nat.reduceEqDiff, Nat.reduceAdd, Nat.reduceSub, Nat.reduceMul, Nat.reduceLeDiff, Nat.reduceLT, Int.reduceNeg, Int.reduceToNat, Int.reduceAdd, Int.reduceSub, Int.reduceMul, Int.reduceLT, Int.reduceLE, Int.reduceEq, rX, List.drop_succ_cons, ↓rF, rG, ne_eq, not_true_eq_false, not_false_eq_true, Int.reduceNe, List.getElem?_cons_zero, List.getElem?_cons_succ, ↓rK, rM, f1, f2, f10]
      refine callV_intro hok (hc _ _ hsub2) ?_
      rintro _ _ ⟨rfl, rfl⟩
      have key : ∃ w c : Nat, Utf8.decode ⟨l.toArray⟩ pos = (c, w) ∧ 1 ≤ w ∧ pos + w ≤ l.length ∧ p c = p l[pos].toNat ∧ ∀ j, (h : j < l.length) → pos ≤ j → j < pos + w → p l[j].toNat = p l[pos].toNat := by
        by_cases hb : l[pos].toNat < 128
        · have e := decode_low l pos h0 hb
          refine ⟨_, _, e, by omega, by omega, rfl, fun j hj h1 h2 => ?_⟩
          have : j = pos := by omega
          subst this; rfl
        · have hq := decode_high l pos h0 (by omega)
          generalize Utf8.decode ⟨l.toArray⟩ pos = dd at hq
          obtain ⟨cc, ww⟩ := dd
          obtain ⟨q1, q2, q3, q4, q5⟩ := hq
          simp only at q1 q2 q3 q4 q5
          refine ⟨_, _, rfl, q3, q4, ?_, fun j hj h1 h2 => ?_⟩
          · rw [hp _ (by omega), hp _ (by omega)]
          · rw [hp _ (by have := q5 j hj h1 h2; omega), hp _ (by omega)]
      obtain ⟨w, c, hd, hw, hle, hpc, hpj⟩ := key
      rw [hd]
      simp only
      rw [hpc]
      cases hq : p l[pos].toNat with
      | true =>
        rw [hq] at hpj
        simp (dsimp := false) (implicitDefEqProofs := false) (maxSteps := 1000000) (disch := first | omega | assumption | (simp only [rL, Nat.reduceAdd]; done) | (simp only [rL, Nat.reduceAdd]; omega)) only [↓rD, rU, ev, ofConst, ofCell, ↓reduceIte, Nat.reduceEqDiff, Nat.reduceAdd, Nat.reduceSub, Nat.reduceMul, Nat.reduceLeDiff, Nat.reduceLT, Int.reduceNeg, Int.reduceToNat, Int.reduceAdd, Int.reduceSub, Int.reduceMul, Int.reduceLT, Int.reduceLE, Int.reduceEq, rX, List.drop_succ_cons, ↓rF, rG, ne_eq, not_true_eq_false, not_false_eq_true, Int.reduceNe, List.getElem?_cons_zero, List.getElem?_cons_succ, ↓rK, rM, f1, f2, f10]
        refine ⟨⟨pos + w, hle, rfl, fun j hj h2 => ?_⟩, ?_⟩
        · rcases Nat.lt_or_ge j pos with h3 | h3
          · exact hall j hj h3
          · exact hpj j hj h3 h2
        · simp only [Hp.set_same]; omega
      | false =>
        simp (dsimp := false) (implicitDefEqProofs := false) (maxSteps := 1000000) (disch := first | omega | assumption | (simp only [rL, Nat.reduceAdd]; done) | (simp only [rL, Nat.reduceAdd]; omega)) only [↓rD, rU, ev, ofConst, ofCell, ↓reduceIte, Nat.reduceEqDiff, Nat.reduceAdd, Nat.reduceSub, Nat.reduceMul, Nat.reduceLeDiff, Nat.reduceLT, Int.reduceNeg, Int.reduceToNat, Int.reduceAdd, Int.reduceSub, Int.reduceMul, Int.reduceLT, Int.reduceLE, Int.reduceEq, rX, List.drop_succ_cons, ↓rF, rG, ne_eq, not_true_eq_false, not_false_eq_true, Int.reduceNe, List.getElem?_cons_zero, List.getElem?_cons_succ, ↓rK, rM, f1, f2, f10]
        refine ⟨_, Hp.sub_refl, Hp.sub_new Hp.sub_refl ni, ?_⟩
        have := tw_stop l pos h0 hall hq
        simp only [stopAt, this]
        rw [if_neg (by omega)]
    · refine nxtS_none (Hp.set_same _ _ _) h0 ?_
      simp (dsimp := false) (implicitDefEqProofs := false) (maxSteps := 1000000) (disch := first | omega | assumption | (simp only [rL, Nat.reduceAdd]; done) | (simp only [rL, Nat.reduceAdd]; omega)) only [↓rD, rU, ev, ofConst, ofCell, ↓reduceIte, Nat.reduceEqDiff, Nat.reduceAdd, Nat.reduceSub, Nat.reduceMul, Nat.reduceLeDiff, Nat.reduceLT, Int.reduceNeg, Int.reduceToNat, Int.reduceAdd, Int.reduceSub, Int.reduceMul, Int.reduceLT, Int.reduceLE, Int.reduceEq, rX, List.drop_succ_cons, ↓rF, rG, ne_eq, not_true_eq_false, not_false_eq_true, Int.reduceNe, List.getElem?_cons_zero, List.getElem?_cons_succ, ↓rK, rM, f10]
      refine ⟨_, Hp.sub_refl, hsub, ?_⟩
      have h1 := tw_all (p := p) l pos hpos hall
      have h2 := tw_le p l
      simp only [stopAt]
      rw [if_pos (by omega)]

theorem IndexFunc_spec (p : Int → Bool) (hi : Bool) (hp : ∀ c, 128 ≤ c → p c = hi) (l : List UInt8) (F : AV) (s : Hp) (hl : l.length ≤ 1099511627776) (hF : Pays s F fun c => !p c) :
    AC Tryd.prog 34 [strV l, F] s fun r s' => s.sub s' ∧ r = .v (.int .i64 (stopAt p l)) := by
  refine AC_run hm prep34 (by simp) ?_
  simp (dsimp := false) (implicitDefEqProofs := false) (maxSteps := 1000000) (disch := first | omega | assumption | (simp only [rL, Nat.reduceAdd]; done) | (simp only [rL, Nat.reduceAdd]; omega)) only [↓rD, rU, ev, ofConst, ofCell, ↓reduceIte, Nat.reduceEqDiff, Nat.reduceAdd, Nat.reduceSub, Nat.reduceMul, Nat.reduceLeDiff, Nat.reduceLT, Int.reduceNeg, Int.reduceToNat, Int.reduceAdd, Int.reduceSub, Int.reduceMul, Int.reduceLT, Int.reduceLE, Int.reduceEq, rX, List.drop_succ_cons, ↓rF, rG, ne_eq, not_true_eq_false, not_false_eq_true, Int.reduceNe, List.getElem?_cons_zero, List.getElem?_cons_succ, ↓rK, rM]
  refine call_intro (indexFunc_spec p hi hp l F s hl hF) ?_
  rintro _ s2 ⟨h2, rfl⟩
  simp (dsimp := false) (implicitDefEqProofs := false) (maxSteps := 1000000) (disch := first | omega | assumption | (simp only [rL, Nat.reduceAdd]; done) | (simp only [rL, Nat.reduceAdd]; omega)) only [↓rD, rU, ev, ofConst, ofCell, ↓reduceIte, Nat.reduceEqDiff, Nat.reduceAdd, Nat.reduceSub, Nat.reduceMul, Nat.reduceLeDiff, Nat.reduceLT, Int.reduceNeg, Int.reduceToNat, Int.reduceAdd, Int.reduceSub, Int.reduceMul, Int.reduceLT, Int.reduceLE, Int.reduceEq, rX, List.drop_succ_cons, ↓rF, rG, ne_eq, not_true_eq_false, not_false_eq_true, Int.reduceNe, List.getElem?_cons_zero, List.getElem?_cons_succ, ↓rK, rM]
  exact ⟨_, Hp.sub_refl, h2⟩

theorem far_spec (p : Int → Bool) (hi : Bool) (hp : ∀ c, 128 ≤ c → p c = hi) (l : List UInt8) (F : AV) (s : Hp) (hl : l.length ≤ 1099511627776) (hF : Pays s F p) :
    AC Tryd.prog 25 [strV l, F] s fun r s' => s.sub s' ∧ r = .v (.int .i64 (tw p l).length) := by
  refine AC_run hm prep25 (by simp) ?_
  have hF0 := hF
  obtain ⟨g, ds, cs, rfl, hok, hc⟩ := hF
  simp (dsimp := false) (implicitDefEqProofs := false) (maxSteps := 1000000) (disch := first | omega | assumption | (simp only [rL, Nat.reduceAdd]; done) | (simp only [rL, Nat.reduceAdd]; omega)) only [↓rD, rU, ev, ofConst, ofCell, ↓reduceIte, Nat.reduceEqDiff, Nat.reduceAdd, Nat.reduceSub, Nat.reduceMul, Nat.reduceLeDiff, Nat.reduceLT, Int.reduceNeg, Int.reduceToNat, Int.reduceAdd, Int.reduceSub, Int.reduceMul, Int.reduceLT, Int.reduceLE, Int.reduceEq, rX, List.drop_succ_cons, ↓rF, rG, ne_eq, not_true_eq_false, not_false_eq_true, Int.reduceNe, List.getElem?_cons_zero, List.getElem?_cons_succ, ↓rK, rM]
  refine newK_intro fun lb nb => ?_
  have hsub : s.sub (s.set lb (.cells [.clo g ds cs])) := Hp.sub_new Hp.sub_refl nb
  simp (dsimp := false) (implicitDefEqProofs := false) (maxSteps := 1000000) (disch := first | omega | assumption | (simp only [rL, Nat.reduceAdd]; done) | (simp only [rL, Nat.reduceAdd]; omega)) only [↓rD, rU, ev, ofConst, ofCell, ↓reduceIte, Nat.reduceEqDiff, Nat.reduceAdd, Nat.reduceSub, Nat.reduceMul, Nat.reduceLeDiff, Nat.reduceLT, Int.reduceNeg, Int.reduceToNat, Int.reduceAdd, Int.reduceSub, Int.reduceMul, Int.reduceLT, Int.reduceLE, Int.reduceEq, rX, List.drop_succ_cons, ↓rF, rG, ne_eq, not_true_eq_false, not_false_eq_true, Int.reduceNe, List.getElem?_cons_zero, List.getElem?_cons_succ, ↓rK, rM]
  refine call_intro (IndexFunc_spec p hi hp l _ _ hl (not_spec _ p lb _ (hF0.mono hsub) (Hp.set_same _ _ _))) ?_
  rintro _ s2 ⟨h2, rfl⟩
  have h3 := tw_le p l
  by_cases h : (tw p l).length = l.length
  · have e : stopAt p l = -1 := by simp [stopAt, h]
    simp (dsimp := false) (implicitDefEqProofs := false) (maxSteps := 1000000) (disch := first | omega | assumption | (simp only [rL, Nat.reduceAdd]; done) | (simp only [rL, Nat.reduceAdd]; omega)) only [↓rD, rU, ev, ofConst, ofCell, ↓reduceIte, Nat.reduceEqDiff, Nat.reduceAdd, Nat.reduceSub, Nat.reduceMul, Nat.reduceLeDiff, Nat.reduceLT, Int.reduceNeg, Int.reduceToNat, Int.reduceAdd, Int.reduceSub, Int.reduceMul, Int.reduceLT, Int.reduceLE, Int.reduceEq, rX, List.drop_succ_cons, ↓rF, rG, ne_eq, not_true_eq_false, not_false_eq_true, Int.reduceNe, List.getElem?_cons_zero, List.getElem?_cons_succ, ↓rK, rM, e, strV]
    exact ⟨_, Hp.sub_refl, Hp.sub_trans hsub h2, by rw [h]⟩
  · have e : stopAt p l = ((tw p l).length : Int) := by simp [stopAt, h]
    have e2 : ¬ (((tw p l).length : Nat) : Int) < 0 := by omega
    simp (dsimp := false) (implicitDefEqProofs := false) (maxSteps := 1000000) (disch := first | omega | assumption | (simp only [rL, Nat.reduceAdd]; done) | (simp only [rL, Nat.reduceAdd]; omega)) only [↓rD, rU, ev, ofConst, ofCell, ↓reduceIte, Nat.reduceEqDiff, Nat.reduceAdd, Nat.reduceSub, Nat.reduceMul, Nat.reduceLeDiff, Nat.reduceLT, Int.reduceNeg, Int.reduceToNat, Int.reduceAdd, Int.reduceSub, Int.reduceMul, Int.reduceLT, Int.reduceLE, Int.reduceEq, rX, List.drop_succ_cons, ↓rF, rG, ne_eq, not_true_eq_false, not_false_eq_true, Int.reduceNe, List.getElem?_cons_zero, List.getElem?_cons_succ, ↓rK, rM, e, e2, strV]
    exact ⟨_, Hp.sub_refl, Hp.sub_trans hsub h2⟩

/-! ### prefixes -/
def pre (p l : List UInt8) : Bool := decide (l.take p.length = p)
theorem hasPrefixL_spec (l p : List UInt8) (s : Hp) : AC Tryd.prog 36 [strV l, strV p] s fun r s' => s' = s ∧ r = .v (.bool (decide (p.length ≤ l.length) && pre p l)) := by
  refine AC_run hm prep36 (by simp) ?_
  by_cases h : (p.length : Int) ≤ (l.length : Int)
  · have h' : p.length ≤ l.length := by omega
    simp (dsimp := false) (implicitDefEqProofs := false) (maxSteps := 1000000) (disch := first | omega | assumption | (simp only [rL, Nat.reduceAdd]; done) | (simp only [rL, Nat.reduceAdd]; omega)) only [↓rD, rU, ev, ofConst, ofCell, ↓reduceIte, Nat.reduceEqDiff, Nat.reduceAdd, Nat.reduceSub, Nat.reduceMul, Nat.reduceLeDiff, Nat.reduceLT, Int.reduceNeg, Int.reduceToNat, Int.reduceAdd, Int.reduceSub, Int.reduceMul, Int.reduceLT, Int.reduceLE, Int.reduceEq, rX, List.drop_succ_cons, ↓rF, rG, ne_eq, not_true_eq_false, not_false_eq_true, Int.reduceNe, List.getElem?_cons_zero, List.getElem?_cons_succ, ↓rK, rM, strV, h]
    exact ⟨_, Hp.sub_refl, rfl, by simp [pre, h']⟩
  · have h' : ¬ p.length ≤ l.length := by omega
    simp (dsimp := false) (implicitDefEqProofs := false) (maxSteps := 1000000) (disch := first | omega | assumption | (simp only [rL, Nat.reduceAdd]; done) | (simp only [rL, Nat.reduceAdd]; omega)) only [↓rD, rU, ev, ofConst, ofCell, ↓reduceIte, Nat.reduceEqDiff, Nat.reduceAdd, Nat.reduceSub, Nat.reduceMul, Nat.reduceLeDiff, Nat.reduceLT, Int.reduceNeg, Int.reduceToNat, Int.reduceAdd, Int.reduceSub, Int.reduceMul, Int.reduceLT, Int.reduceLE, Int.reduceEq, rX, List.drop_succ_cons, ↓rF, rG, ne_eq, not_true_eq_false, not_false_eq_true, Int.reduceNe, List.getElem?_cons_zero, List.getElem?_cons_succ, ↓rK, rM, strV, h]
    exact ⟨_, Hp.sub_refl, rfl, by simp [h']⟩
theorem hasPrefix_spec (l p : List UInt8) (s : Hp) : AC Tryd.prog 26 [strV l, strV p] s fun r s' => s' = s ∧ r = .v (.bool (decide (p.length ≤ l.length) && pre p l)) := by
  refine AC_run hm prep26 (by simp) ?_
  simp (dsimp := false) (implicitDefEqProofs := false) (maxSteps := 1000000) (disch := first | omega | assumption | (simp only [rL, Nat.reduceAdd]; done) | (simp only [rL, Nat.reduceAdd]; omega)) only [↓rD, rU, ev, ofConst, ofCell, ↓reduceIte, Nat.reduceEqDiff, Nat.reduceAdd, Nat.reduceSub, Nat.reduceMul, Nat.reduceLeDiff, Nat.reduceLT, Int.reduceNeg, Int.reduceToNat, Int.reduceAdd, Int.reduceSub, Int.reduceMul, Int.reduceLT, Int.reduceLE, Int.reduceEq, rX, List.drop_succ_cons, ↓rF, rG, ne_eq, not_true_eq_false, not_false_eq_true, Int.reduceNe, List.getElem?_cons_zero, List.getElem?_cons_succ, ↓rK, rM]
  refine call_intro (hasPrefixL_spec l p s) ?_
  rintro _ _ ⟨rfl, rfl⟩
  simp (dsimp := false) (implicitDefEqProofs := false) (maxSteps := 1000000) (disch := first | omega | assumption | (simp only [rL, Nat.reduceAdd]; done) | (simp only [rL, Nat.reduceAdd]; omega)) only [↓rD, rU, ev, ofConst, ofCell, ↓reduceIte, Nat.reduceEqDiff, Nat.reduceAdd, Nat.reduceSub, Nat.reduceMul, Nat.reduceLeDiff, Nat.reduceLT, Int.reduceNeg, Int.reduceToNat, Int.reduceAdd, Int.reduceSub, Int.reduceMul, Int.reduceLT, Int.reduceLE, Int.reduceEq, rX, List.drop_succ_cons, ↓rF, rG, ne_eq, not_true_eq_false, not_false_eq_true, Int.reduceNe, List.getElem?_cons_zero, List.getElem?_cons_succ, ↓rK, rM]
  exact ⟨_, Hp.sub_refl, rfl⟩
theorem trimPrefixL_spec (l p : List UInt8) (s : Hp) : AC Tryd.prog 51 [strV l, strV p] s fun r s' => s' = s ∧ r = strV (if (decide (p.length ≤ l.length) && pre p l) = true then l.drop p.length else l) := by
  refine AC_run hm prep51 (by simp) ?_
  simp (dsimp := false) (implicitDefEqProofs := false) (maxSteps := 1000000) (disch := first | omega | assumption | (simp only [rL, Nat.reduceAdd]; done) | (simp only [rL, Nat.reduceAdd]; omega)) only [↓rD, rU, ev, ofConst, ofCell, ↓reduceIte, Nat.reduceEqDiff, Nat.reduceAdd, Nat.reduceSub, Nat.reduceMul, Nat.reduceLeDiff, Nat.reduceLT, Int.reduceNeg, Int.reduceToNat, Int.reduceAdd, Int.reduceSub, Int.reduceMul, Int.reduceLT, Int.reduceLE, Int.reduceEq, rX, List.drop_succ_cons, ↓rF, rG, ne_eq, not_true_eq_false, not_false_eq_true, Int.reduceNe, List.getElem?_cons_zero, List.getElem?_cons_succ, ↓rK, rM]
  refine call_intro (hasPrefixL_spec l p s) ?_
  rintro _ _ ⟨rfl, rfl⟩
  cases h : (decide (p.length ≤ l.length) && pre p l) with
  | true =>
    have h' : (p.length : Int) ≤ (l.length : Int) := by
      simp only [Bool.and_eq_true, decide_eq_true_eq] at h; omega
    simp (dsimp := false) (implicitDefEqProofs := false) (maxSteps := 1000000) (disch := first | omega | assumption | (simp only [rL, Nat.reduceAdd]; done) | (simp only [rL, Nat.reduceAdd]; omega)) only [↓rD, rU, ev, ofConst, ofCell, ↓reduceIte, Nat.reduceEqDiff, Nat.reduceAdd, Nat.reduceSub, Nat.reduceMul, Nat.reduceLeDiff, Nat.reduceLT, Int.reduceNeg, Int.reduceToNat, Int.reduceAdd, Int.reduceSub, Int.reduceMul, Int.reduceLT, Int.reduceLE, Int.reduceEq, rX, List.drop_succ_cons, ↓rF, rG, ne_eq, not_true_eq_false, not_false_eq_true, Int.reduceNe, List.getElem?_cons_zero, List.getElem?_cons_succ, ↓rK, rM, strV]
    exact ⟨_, Hp.sub_refl, rfl⟩
  | false =>
    simp (dsimp := false) (implicitDefEqProofs := false) (maxSteps := 1000000) (disch := first | omega | assumption | (simp only [rL, Nat.reduceAdd]; done) | (simp only [rL, Nat.reduceAdd]; omega)) only [↓rD, rU, ev, ofConst, ofCell, ↓reduceIte, Nat.reduceEqDiff, Nat.reduceAdd, Nat.reduceSub, Nat.reduceMul, Nat.reduceLeDiff, Nat.reduceLT, Int.reduceNeg, Int.reduceToNat, Int.reduceAdd, Int.reduceSub, Int.reduceMul, Int.reduceLT, Int.reduceLE, Int.reduceEq, rX, List.drop_succ_cons, ↓rF, rG, ne_eq, not_true_eq_false, not_false_eq_true, Int.reduceNe, List.getElem?_cons_zero, List.getElem?_cons_succ, ↓rK, rM, strV]
    exact ⟨_, Hp.sub_refl, rfl, by simp⟩
theorem trimPrefix_spec (l p : List UInt8) (s : Hp) : AC Tryd.prog 40 [strV l, strV p] s fun r s' => s' = s ∧ r = strV (if (decide (p.length ≤ l.length) && pre p l) = true then l.drop p.length else l) := by
  refine AC_run hm prep40 (by simp) ?_
  simp (dsimp := false) (implicitDefEqProofs := false) (maxSteps := 1000000) (disch := first | omega | assumption | (simp only [rL, Nat.reduceAdd]; done) | (simp only [rL, Nat.reduceAdd]; omega)) only [↓rD, rU, ev, ofConst, ofCell, ↓reduceIte, Nat.reduceEqDiff, Nat.reduceAdd, Nat.reduceSub, Nat.reduceMul, Nat.reduceLeDiff, Nat.reduceLT, Int.reduceNeg, Int.reduceToNat, Int.reduceAdd, Int.reduceSub, Int.reduceMul, Int.reduceLT, Int.reduceLE, Int.reduceEq, rX, List.drop_succ_cons, ↓rF, rG, ne_eq, not_true_eq_false, not_false_eq_true, Int.reduceNe, List.getElem?_cons_zero, List.getElem?_cons_succ, ↓rK, rM]
  refine call_intro (trimPrefixL_spec l p s) ?_
  rintro _ _ ⟨rfl, rfl⟩
  simp (dsimp := false) (implicitDefEqProofs := false) (maxSteps := 1000000) (disch := first | omega | assumption | (simp only [rL, Nat.reduceAdd]; done) | (simp only [rL, Nat.reduceAdd]; omega)) only [↓rD, rU, ev, ofConst, ofCell, ↓reduceIte, Nat.reduceEqDiff, Nat.reduceAdd, Nat.reduceSub, Nat.reduceMul, Nat.reduceLeDiff, Nat.reduceLT, Int.reduceNeg, Int.reduceToNat, Int.reduceAdd, Int.reduceSub, Int.reduceMul, Int.reduceLT, Int.reduceLE, Int.reduceEq, rX, List.drop_succ_cons, ↓rF, rG, ne_eq, not_true_eq_false, not_false_eq_true, Int.reduceNe, List.getElem?_cons_zero, List.getElem?_cons_succ, ↓rK, rM]
  exact ⟨_, Hp.sub_refl, rfl⟩

/-! ### blanks and comments -/
/-- what is left behind blanks and comments; 'true': in a comment -/
def skip : Bool → List UInt8 → List UInt8
  | _, [] => []
  | true, b :: r => if b = 10 then skip false r else skip true r
  | false, b :: r => if blankR b.toNat = true then skip false r else if b = 45 ∧ r.head? = some 45 then skip true r else b :: r
theorem skip_sfx : ∀ (c : Bool) (l : List UInt8), ∃ k, skip c l = l.drop k ∧ k ≤ l.length
  | true, [] => ⟨0, rfl, by simp⟩
  | false, [] => ⟨0, rfl, by simp⟩
  | true, b :: r => by
    obtain ⟨k1, h1, h1'⟩ := skip_sfx true r
    obtain ⟨k2, h2, h2'⟩ := skip_sfx false r
    simp only [skip]
    split
    · exact ⟨k2 + 1, by simpa using h2, by simp; omega⟩
    · exact ⟨k1 + 1, by simpa using h1, by simp; omega⟩
  | false, b :: r => by
    obtain ⟨k1, h1, h1'⟩ := skip_sfx true r
    obtain ⟨k2, h2, h2'⟩ := skip_sfx false r
    simp only [skip]
    split
    · exact ⟨k2 + 1, by simpa using h2, by simp; omega⟩
    · split
      · exact ⟨k1 + 1, by simpa using h1, by simp; omega⟩
      · exact ⟨0, rfl, by simp⟩
theorem skip_le (c : Bool) (l : List UInt8) : (skip c l).length ≤ l.length := by
  obtain ⟨k, h, _⟩ := skip_sfx c l
  rw [h, List.length_drop]; omega
/-- blanks ahead are passed at once -/
theorem skip_blank : ∀ l : List UInt8, skip false (l.drop (tw blankR l).length) = skip false l
  | [] => rfl
  | b :: r => by
    cases h : blankR b.toNat with
    | true =>
      have e : (tw blankR (b :: r)).length = (tw blankR r).length + 1 := by simp [tw, List.takeWhile_cons, h]
      rw [e, List.drop_succ_cons, skip_blank r]
      simp [skip, h]
    | false =>
      have e : (tw blankR (b :: r)).length = 0 := by simp [tw, List.takeWhile_cons, h]
      rw [e]; rfl
/-- a comment is passed at once -/
theorem skip_line : ∀ l : List UInt8, skip false (l.drop (tw lineR l).length) = skip true l
  | [] => rfl
  | b :: r => by
    by_cases h : b = 10
    · subst h
      have e : (tw lineR (10 :: r)).length = 0 := by simp [tw, List.takeWhile_cons, lineR]
      rw [e, List.drop_zero]
      simp [skip, blankR]
    · have h' : lineR b.toNat = true := by
        have : b.toNat ≠ 10 := fun h2 => h (UInt8.toNat_inj.1 h2)
        simp [lineR]; omega
      have e : (tw lineR (b :: r)).length = (tw lineR r).length + 1 := by simp [tw, List.takeWhile_cons, h']
      rw [e, List.drop_succ_cons, skip_line r]
      simp [skip, h]

theorem blanks_spec (l : List UInt8) (s : Hp) (hl : l.length ≤ 1099511627776) : AC Tryd.prog 13 [strV l] s fun r s' => s.sub s' ∧ r = .v (.int .i64 ((l.length - (skip false l).length : Nat) : Int)) := by
  refine AC_run hm prep13 (by simp) ?_
  simp (dsimp := false) (implicitDefEqProofs := false) (maxSteps := 1000000) (disch := first | omega | assumption | (simp only [rL, Nat.reduceAdd]; done) | (simp only [rL, Nat.reduceAdd]; omega)) only [↓rD, rU, ev, ofConst, ofCell, ↓reduceIte, Nat.reduceEqDiff, Nat.reduceAdd, Nat.reduceSub, Nat.reduceMul, Nat.reduceLeDiff, Nat.reduceLT, Int.reduceNeg, Int.reduceToNat, Int.reduceAdd, Int.reduceSub, Int.reduceMul, Int.reduceLT, Int.reduceLE, Int.reduceEq, rX, List.drop_succ_cons, ↓rF, rG, ne_eq, not_true_eq_false, not_false_eq_true, Int.reduceNe, List.getElem?_cons_zero, List.getElem?_cons_succ, ↓rK, rM]
  refine loop_intro (fun f s' => ∃ n : Nat, n ≤ l.length ∧ s.sub s' ∧ f 0 = strV l ∧ f 3 = .v (.int .i64 n) ∧ skip false (l.drop n) = skip false l)
    (fun f _ => match f 3 with | .v (.int _ n) => l.length - n.toNat | _ => 0) ⟨0, by omega, Hp.sub_refl, ?_⟩ ?_
  · simp (dsimp := false) (implicitDefEqProofs := false) (maxSteps := 1000000) (disch := first | omega | assumption | (simp only [rL, Nat.reduceAdd]; done) | (simp only [rL, Nat.reduceAdd]; omega)) only [↓rD, rU, ev, ofConst, ofCell, ↓reduceIte, Nat.reduceEqDiff, Nat.reduceAdd, Nat.reduceSub, Nat.reduceMul, Nat.reduceLeDiff, Nat.reduceLT, Int.reduceNeg, Int.reduceToNat, Int.reduceAdd, Int.reduceSub, Int.reduceMul, Int.reduceLT, Int.reduceLE, Int.reduceEq, rX, List.drop_succ_cons, ↓rF, rG, ne_eq, not_true_eq_false, not_false_eq_true, Int.reduceNe, List.getElem?_cons_zero, List.getElem?_cons_succ, ↓rK, rM]
  · rintro f s' ⟨n, hn, hsub, f0, f3, hsk⟩
    have hni : (n : Int) ≤ (l.length : Int) := by omega
    simp (dsimp := false) (implicitDefEqProofs := false) (maxSteps := 1000000) (disch := first | omega | assumption | (simp only [rL, Nat.reduceAdd]; done) | (simp only [rL, Nat.reduceAdd]; omega)) only [↓rD, rU, ev, ofConst, ofCell, ↓reduceIte, Nat.reduceEqDiff, Nat.reduceAdd, Nat.reduceSub, Nat.reduceMul, Nat.reduceLeDiff, Nat.reduceLT, Int.reduceNeg, Int.reduceToNat, Int.reduceAdd, Int.reduceSub, Int.reduceMul, Int.reduceLT, Int.reduceLE, Int.reduceEq, rX, List.drop_succ_cons, ↓rF, rG, ne_eq, not_true_eq_false, not_false_eq_true, Int.reduceNe, List.getElem?_cons_zero, List.getElem?_cons_succ, ↓rK, rM, f0, f3, strV]
    generalize hq : l.drop n = q at *
    have hql : q.length = l.length - n := by rw [← hq, List.length_drop]
    refine call_intro (first_spec q s') ?_
    rintro _ s2 ⟨h2, rfl⟩
    simp (dsimp := false) (implicitDefEqProofs := false) (maxSteps := 1000000) (disch := first | omega | assumption | (simp only [rL, Nat.reduceAdd]; done) | (simp only [rL, Nat.reduceAdd]; omega)) only [↓rD, rU, ev, ofConst, ofCell, ↓reduceIte, Nat.reduceEqDiff, Nat.reduceAdd, Nat.reduceSub, Nat.reduceMul, Nat.reduceLeDiff, Nat.reduceLT, Int.reduceNeg, Int.reduceToNat, Int.reduceAdd, Int.reduceSub, Int.reduceMul, Int.reduceLT, Int.reduceLE, Int.reduceEq, rX, List.drop_succ_cons, ↓rF, rG, ne_eq, not_true_eq_false, not_false_eq_true, Int.reduceNe, List.getElem?_cons_zero, List.getElem?_cons_succ, ↓rK, rM]
    refine call_intro (isBlank_spec _ _) ?_
    rintro _ s2 ⟨rfl, rfl⟩
    cases hb : blankR (fst q) with
    | true =>
      simp (dsimp := false) (implicitDefEqProofs := false) (maxSteps := 1000000) (disch := first | omega | assumption | (simp only [rL, Nat.reduceAdd]; done) | (simp only [rL, Nat.reduceAdd]; omega)) only [↓rD, rU, ev, ofConst, ofCell, ↓reduceIte, Nat.reduceEqDiff, Nat.reduceAdd, Nat.reduceSub, Nat.reduceMul, Nat.reduceLeDiff, Nat.reduceLT, Int.reduceNeg, Int.reduceToNat, Int.reduceAdd, Int.reduceSub, Int.reduceMul, Int.reduceLT, Int.reduceLE, Int.reduceEq, rX, List.drop_succ_cons, ↓rF, rG, ne_eq, not_true_eq_false, not_false_eq_true, Int.reduceNe, List.getElem?_cons_zero, List.getElem?_cons_succ, ↓rK, rM, f0, f3]
      refine call_intro (far_spec blankR false blankR_hi q _ _ (by omega) (pays_of (by kernel_rfl) isBlank_spec)) ?_
      rintro _ s3 ⟨h3, rfl⟩
      have htw := tw_le blankR q
      have hpos : 0 < (tw blankR q).length := by
        rw [fst_pred rfl blankR_hi] at hb
        cases q with
        | nil => cases hb
        | cons b r => simp [tw, List.takeWhile_cons, hb]
      simp (dsimp := false) (implicitDefEqProofs := false) (maxSteps := 1000000) (disch := first | omega | assumption | (simp only [rL, Nat.reduceAdd]; done) | (simp only [rL, Nat.reduceAdd]; omega)) only [↓rD, rU, ev, ofConst, ofCell, ↓reduceIte, Nat.reduceEqDiff, Nat.reduceAdd, Nat.reduceSub, Nat.reduceMul, Nat.reduceLeDiff, Nat.reduceLT, Int.reduceNeg, Int.reduceToNat, Int.reduceAdd, Int.reduceSub, Int.reduceMul, Int.reduceLT, Int.reduceLE, Int.reduceEq, rX, List.drop_succ_cons, ↓rF, rG, ne_eq, not_true_eq_false, not_false_eq_true, Int.reduceNe, List.getElem?_cons_zero, List.getElem?_cons_succ, ↓rK, rM, f0, f3]
      refine ⟨⟨n + (tw blankR q).length, by omega, Hp.sub_trans hsub (Hp.sub_trans h2 h3), by simp, ?_⟩, by omega⟩
      rw [← List.drop_drop, hq, skip_blank, hsk]
    | false =>
      simp (dsimp := false) (implicitDefEqProofs := false) (maxSteps := 1000000) (disch := first | omega | assumption | (simp only [rL, Nat.reduceAdd]; done) | (simp only [rL, Nat.reduceAdd]; omega)) only [↓rD, rU, ev, ofConst, ofCell, ↓reduceIte, Nat.reduceEqDiff, Nat.reduceAdd, Nat.reduceSub, Nat.reduceMul, Nat.reduceLeDiff, Nat.reduceLT, Int.reduceNeg, Int.reduceToNat, Int.reduceAdd, Int.reduceSub, Int.reduceMul, Int.reduceLT, Int.reduceLE, Int.reduceEq, rX, List.drop_succ_cons, ↓rF, rG, ne_eq, not_true_eq_false, not_false_eq_true, Int.reduceNe, List.getElem?_cons_zero, List.getElem?_cons_succ, ↓rK, rM, f0, f3]
      refine call_intro (hasPrefix_spec q [45, 45] s2) ?_
      rintro _ s2 ⟨rfl, rfl⟩
      have hb' := hb
      rw [fst_pred rfl blankR_hi] at hb'
      cases hp : (decide (([45, 45] : List UInt8).length ≤ q.length) && pre [45, 45] q) with
      | true =>
        simp (dsimp := false) (implicitDefEqProofs := false) (maxSteps := 1000000) (disch := first | omega | assumption | (simp only [rL, Nat.reduceAdd]; done) | (simp only [rL, Nat.reduceAdd]; omega)) only [↓rD, rU, ev, ofConst, ofCell, ↓reduceIte, Nat.reduceEqDiff, Nat.reduceAdd, Nat.reduceSub, Nat.reduceMul, Nat.reduceLeDiff, Nat.reduceLT, Int.reduceNeg, Int.reduceToNat, Int.reduceAdd, Int.reduceSub, Int.reduceMul, Int.reduceLT, Int.reduceLE, Int.reduceEq, rX, List.drop_succ_cons, ↓rF, rG, ne_eq, not_true_eq_false, not_false_eq_true, Int.reduceNe, List.getElem?_cons_zero, List.getElem?_cons_succ, ↓rK, rM, f0, f3]
        refine call_intro (far_spec lineR true lineR_hi q _ _ (by omega) (pays_of (by kernel_rfl) inLine_spec)) ?_
        rintro _ s3 ⟨h3, rfl⟩
        have htw := tw_le lineR q
        simp only [Bool.and_eq_true, decide_eq_true_eq, pre] at hp
        obtain ⟨r, rfl⟩ : ∃ r, q = 45 :: 45 :: r := by
          match q, hp with
          | [], h => simp at h
          | [b], h => simp at h
          | b :: c :: r, h => simp at h; exact ⟨r, by rw [h.1, h.2]⟩
        have hpos : 0 < (tw lineR (45 :: 45 :: r)).length := by simp [tw, List.takeWhile_cons, lineR]
        simp (dsimp := false) (implicitDefEqProofs := false) (maxSteps := 1000000) (disch := first | omega | assumption | (simp only [rL, Nat.reduceAdd]; done) | (simp only [rL, Nat.reduceAdd]; omega)) only [↓rD, rU, ev, ofConst, ofCell, ↓reduceIte, Nat.reduceEqDiff, Nat.reduceAdd, Nat.reduceSub, Nat.reduceMul, Nat.reduceLeDiff, Nat.reduceLT, Int.reduceNeg, Int.reduceToNat, Int.reduceAdd, Int.reduceSub, Int.reduceMul, Int.reduceLT, Int.reduceLE, Int.reduceEq, rX, List.drop_succ_cons, ↓rF, rG, ne_eq, not_true_eq_false, not_false_eq_true, Int.reduceNe, List.getElem?_cons_zero, List.getElem?_cons_succ, ↓rK, rM, f0, f3]
        refine ⟨⟨n + (tw lineR (45 :: 45 :: r)).length, by omega, Hp.sub_trans hsub (Hp.sub_trans h2 h3), by simp, ?_⟩, by omega⟩
        rw [← List.drop_drop, hq, skip_line, ← hsk]
        simp [skip, blankR]
      | false =>
        simp (dsimp := false) (implicitDefEqProofs := false) (maxSteps := 1000000) (disch := first | omega | assumption | (simp only [rL, Nat.reduceAdd]; done) | (simp only [rL, Nat.reduceAdd]; omega)) only [↓rD, rU, ev, ofConst, ofCell, ↓reduceIte, Nat.reduceEqDiff, Nat.reduceAdd, Nat.reduceSub, Nat.reduceMul, Nat.reduceLeDiff, Nat.reduceLT, Int.reduceNeg, Int.reduceToNat, Int.reduceAdd, Int.reduceSub, Int.reduceMul, Int.reduceLT, Int.reduceLE, Int.reduceEq, rX, List.drop_succ_cons, ↓rF, rG, ne_eq, not_true_eq_false, not_false_eq_true, Int.reduceNe, List.getElem?_cons_zero, List.getElem?_cons_succ, ↓rK, rM, f0, f3]
        have e : skip false q = q := by
          cases q with
          | nil => rfl
          | cons b r =>
            simp only at hb'
            have : ¬ (b = 45 ∧ r.head? = some 45) := by
              rintro ⟨rfl, hr⟩
              obtain ⟨r', rfl⟩ : ∃ r', r = 45 :: r' := by
                cases r with
                | nil => simp at hr
                | cons c r' => simp at hr; subst hr; exact ⟨r', rfl⟩
              simp [pre] at hp
            simp [skip, hb', this]
        refine ⟨_, Hp.sub_refl, Hp.sub_trans hsub h2, ?_⟩
        rw [← hsk, e, hql]
        congr 3; omega
end Go.Proofs.YtpbicmjkjihhnaaDoor
/-
  Go's library as contracts over abstract values: strings.ToLower, strconv.FormatInt, strconv.ParseInt.
-/
set_option maxRecDepth 100000
namespace Go.Proofs.YtpbicmjkjihhnaaDoor
open Go Go.Av Go.RowKit

theorem Step.below {H : PH} {s : Hp} {w w' : World} (hh : Holds H s w) (h : Below w.heap.size w w') : Step H s w H s w' where
  holds := ⟨fun b o v hv => by rw [← hh.ro b o v hv]; exact World.cell?_of_block (h.block b (hh.lt hv)), fun l o hl => (hh.ob l o hl).kept (.refl H) (h.block l (hh.ob l o hl).lt) (fun _ hi => hi)⟩
  le := .refl H
  os := h.os
  tape := h.tape
  output := h.output
  size := h.size
  block := fun b hb _ => h.block b hb
  newS := fun _ h => .inl h
  newH := fun _ _ h => .inl h
  roB := fun b cs hb h' => ⟨h.block b hb, .inr ⟨cs, h'⟩⟩

theorem RVA.str1 {H : PH} {vs : Array Value} {l : List UInt8} (h : RVA H vs [strV l]) : vs = #[.string ⟨l.toArray⟩] := by
  obtain ⟨h1, h2⟩ := h
  have h3 := RV.ev_v (h2 0 _ rfl)
  apply Array.ext (by simpa using h1)
  intro i hi hi'
  have : i = 0 := by simp at hi'; omega
  subst this
  simpa [hi] using h3

/-- strings.ToLower of ASCII text -/
theorem toLower_spec (l : List UInt8) (hl : l.length ≤ 140737488355328) (ha : ∀ b ∈ l, b.toNat < 128) (s : Hp) :
    AC Tryd.prog 30 [strV l] s fun r s' => s' = s ∧ r = strV (l.map Lib.lowerB) := by
  intro vs w H hv hh
  obtain rfl := RVA.str1 hv
  refine (Tryd.strings_ToLower_ascii ⟨l.toArray⟩ w (by rw [size_str]; exact hl) (fun j b hj => ha b (List.mem_of_getElem? (by simpa using hj)))).mono ?_
  rintro e w' ⟨rfl, hb⟩
  refine ⟨_, _, H, s, rfl, Step.below hh hb, ?_, rfl, rfl⟩
  have e1 : (Lib.toLowerA (⟨l.toArray⟩ : ByteArray).data.toList) = l.map Lib.lowerB := by simp [Lib.toLowerA]
  rw [e1]; exact .v _ rfl

/-- the tables of Go's library, and its errors -/
def PowC : List AV := Lib.pow10Tab.map fun z => .v (.int .u64 z)
def Tabs (s : Hp) : Prop := s 6 = some (.ro PowC) ∧ ∃ t x, s 5 = some (.ro [.iface t x])
theorem Tabs.mono {s s' : Hp} (h : Tabs s) (hs : s.sub s') : Tabs s' := ⟨hs _ _ h.1, by obtain ⟨_, t, x, h⟩ := h; exact ⟨t, x, hs _ _ h⟩⟩

theorem Holds.roCells {H : PH} {s : Hp} {w : World} (hh : Holds H s w) {g : Nat} {cs : List AV} (h : s g = some (.ro cs)) : ∃ vs T fz, w.heap[g]? = some (.cells vs T fz) ∧ RVA H vs cs := by
  obtain ⟨_, vs, T, fz, h1, h2, _⟩ := hh.ob g _ h
  exact ⟨vs, T, fz, h1, h2⟩

theorem RVA.vals {H : PH} {vs : Array Value} {xs : List Value} (h : RVA H vs (xs.map AV.v)) : vs = xs.toArray := by
  obtain ⟨h1, h2⟩ := h
  apply Array.ext (by simpa using h1)
  intro i hi hi'
  have hx : i < xs.length := by simpa using hi'
  have h3 := RV.ev_v (h2 i (.v xs[i]) (by simp [hx]))
  simpa [hi] using h3

theorem pow_at {H : PH} {s : Hp} {w : World} (hh : Holds H s w) (h : Tabs s) : Lib.TabIs Tryd.prog w "internal/strconv.uint64pow10" .u64 Lib.pow10Tab := by
  obtain ⟨vs, T, fz, h1, h2⟩ := Holds.roCells hh h.1
  have e : PowC = (Lib.pow10Tab.map fun z => Value.int .u64 z).map AV.v := by simp [PowC]
  rw [e] at h2
  have hv := RVA.vals h2
  have hg : Tryd.prog.globalNamed "internal/strconv.uint64pow10" = some 6 := by kernel_rfl
  simp only [Lib.TabIs, World.var?, hg, Option.bind_some, h1, hv]

theorem RVA.two {H : PH} {vs : Array Value} {x y : Value} (h : RVA H vs [.v x, .v y]) : vs = #[x, y] := RVA.vals (xs := [x, y]) h
theorem RVA.three {H : PH} {vs : Array Value} {x y z : Value} (h : RVA H vs [.v x, .v y, .v z]) : vs = #[x, y, z] := RVA.vals (xs := [x, y, z]) h

theorem below_grow {w : World} (k : Nat) (os : Array Obj) : Below w.heap.size w (Go.Sort.grow (w.drewN k) os) := by
  refine (below_drewN (Below.refl _ w) k).trans ⟨rfl, rfl, rfl, ?_, fun i hi => ?_⟩
  · simp [Go.Sort.grow]
  · have hh : (w.drewN k).heap = w.heap := by
      have : ∀ k, (w.drewN k).heap = w.heap := fun k => by
        induction k with
        | zero => rfl
        | succ n ih => exact ih
      exact this k
    simp only [Go.Sort.grow, hh]
    rw [Array.getElem?_append_left hi]

theorem formatInt_spec (n : Int) (h0 : -9223372036854775808 ≤ n) (h1 : n ≤ 9223372036854775807) (s : Hp) (hT : Tabs s) :
    AC Tryd.prog 42 [.v (.int .i64 n), .v (.int .i64 10)] s fun r s' => s' = s ∧ r = strV (Lib.itoa n) := by
  intro vs w H hv hh
  obtain rfl := RVA.two hv
  refine (Tryd.strconv_FormatInt_10 n h0 h1 w (pow_at hh hT)).mono ?_
  rintro e w' ⟨rfl, k, os, rfl⟩
  exact ⟨_, _, H, s, rfl, Step.below hh (below_grow k os), .v _ rfl, rfl, rfl⟩

def tupV (v : Int) : AV := .tup [.v (.int .i64 v), .v .nilIface]
theorem parseOk_spec (l : List UInt8) (v : Int) (hl : l.length ≤ 281474976710656) (h : Lib.parseIntB 64 l = .ok v) (s : Hp) :
    AC Tryd.prog 41 [strV l, .v (.int .i64 10), .v (.int .i64 64)] s fun r s' => s' = s ∧ r = tupV v := by
  intro vs w H hv hh
  obtain rfl := RVA.three hv
  have hsz := size_str l
  refine (Tryd.strconv_ParseInt_10_at64_ok ⟨l.toArray⟩ (by omega) v (by simpa using h) w).mono ?_
  rintro e w' ⟨rfl, hw⟩
  have hb : Below w.heap.size w w' := by
    rcases hw with rfl | ⟨t, rfl⟩
    · exact Below.refl _ _
    · exact Lib.bytesWorld_below _ _ _
  refine ⟨_, _, H, s, rfl, Step.below hh hb, ?_, rfl, rfl⟩
  refine .tup _ _ rfl (fun j u hu => ?_)
  match j, hu with
  | 0, hu => simp at hu; subst hu; exact .v _ rfl
  | 1, hu => simp at hu; subst hu; exact .v _ rfl
  | j + 2, hu => simp at hu
theorem parseRange_spec (l : List UInt8) (hl : l.length ≤ 281474976710656) (h : Lib.parseIntB 64 l = .range) (s : Hp) (hT : Tabs s) :
    AC Tryd.prog 41 [strV l, .v (.int .i64 10), .v (.int .i64 64)] s fun r s' => s' = s ∧ ∃ v t x, r = .tup [v, .iface t x] := by
  intro vs w H hv hh
  obtain rfl := RVA.three hv
  have hsz := size_str l
  obtain ⟨_, t, x, hg⟩ := hT
  obtain ⟨us, T, fz, h1, h2⟩ := Holds.roCells hh hg
  obtain ⟨v0, hv0⟩ : ∃ v0, us = #[v0] := by
    have := h2.1
    have hs1 : us.size = 1 := by simpa using this
    exact ⟨us[0], by apply Array.ext; simp [hs1]; intro i hi hi'; simp at hi'; subst hi'; simp⟩
  subst hv0
  have h3 : RV H v0 (.iface t x) := by simpa using h2.2 0 _ rfl
  cases h3 with
  | iface t xv x hx =>
    have hg2 : Tryd.prog.globalNamed "strconv.ErrRange" = some 5 := by kernel_rfl
    refine (Tryd.strconv_ParseInt_10_at64_range_var ⟨l.toArray⟩ (by omega) (by simpa using h) t xv w (by simp only [World.var?, hg2, Option.bind_some, h1])).mono ?_
    rintro e w' ⟨N, rfl, _, _, hb⟩
    refine ⟨_, .tup [.v (.int .i64 (Lib.intSat 64 (⟨l.toArray⟩ : ByteArray).data.toList)), .iface 85 (.ptr N 0)], H, s, rfl, Step.below hh hb, ?_, rfl, _, _, _, rfl⟩
    refine .tup _ _ rfl (fun j u hu => ?_)
    match j, hu with
    | 0, hu => simp at hu; subst hu; simp; exact .v _ rfl
    | 1, hu => simp at hu; subst hu; exact .iface _ _ _ (.ptr N 0)
    | j + 2, hu => simp at hu
end Go.Proofs.YtpbicmjkjihhnaaDoor
/-
  The lexer in plain Lean: tokens of a text.
-/
set_option maxRecDepth 100000
namespace Go.Proofs.YtpbicmjkjihhnaaDoor
open Go Go.Av

/-! ### decimal numerals -/
def decF : Nat → Nat → List UInt8
  | 0, _ => []
  | f + 1, u => if u < 10 then [UInt8.ofNat (48 + u)] else decF f (u / 10) ++ [UInt8.ofNat (48 + u % 10)]
theorem decF_eq : ∀ (f u : Nat), u < 10 ^ f → 0 < f → decF f u = Lib.decDigits u
  | 0, u, _, h => by omega
  | f + 1, u, h, _ => by
    rw [Lib.decDigits]
    simp only [decF]
    split
    · rfl
    · have hlt : u / 10 < 10 ^ f := by rw [Nat.pow_succ] at h; omega
      have hf : 0 < f := by
        rcases Nat.eq_zero_or_pos f with h0 | h0
        · subst h0; simp at h; omega
        · exact h0
      rw [decF_eq f _ hlt hf]
/-- a number in decimal digits -/
def itoaS (n : Int) : List UInt8 := if n < 0 then 45 :: decF 20 n.natAbs else decF 20 n.toNat
theorem itoaS_eq (n : Int) (h0 : -9223372036854775808 ≤ n) (h1 : n ≤ 9223372036854775807) : Lib.itoa n = itoaS n := by
  have e : (10 : Nat) ^ 20 = 100000000000000000000 := by decide
  simp only [itoaS, Lib.itoa]
  rw [decF_eq 20 _ (by rw [e]; omega) (by omega), decF_eq 20 _ (by rw [e]; omega) (by omega)]

/-- what digits spell -/
def dval (acc : Nat) (l : List UInt8) : Nat := l.foldl (fun a b => a * 10 + (b.toNat - 48)) acc
theorem dval_ge : ∀ (l : List UInt8) (acc : Nat), acc ≤ dval acc l
  | [], acc => Nat.le_refl _
  | b :: l, acc => by
    have := dval_ge l (acc * 10 + (b.toNat - 48))
    simp only [dval, List.foldl_cons] at this ⊢
    omega
def digs (l : List UInt8) : Prop := ∀ b ∈ l, digitR b.toNat = true
theorem digitR_iff {b : UInt8} : digitR b.toNat = true ↔ 48 ≤ b.toNat ∧ b.toNat ≤ 57 := by
  simp only [digitR, Bool.and_eq_true, decide_eq_true_eq]; omega
theorem parseUintM_digs : ∀ (l : List UInt8) (acc : Nat), digs l → acc ≤ 18446744073709551615 → Lib.parseUintM 18446744073709551615 acc l = if dval acc l ≤ 18446744073709551615 then .ok (dval acc l) else .range
  | [], acc, _, h => by simp [Lib.parseUintM, dval, h]
  | b :: l, acc, hd, h => by
    have hb := digitR_iff.1 (hd b (by simp))
    have hge := dval_ge l (acc * 10 + (b.toNat - 48))
    have e : dval acc (b :: l) = dval (acc * 10 + (b.toNat - 48)) l := rfl
    rw [Lib.parseUintM, if_pos hb, e]
    split
    · rw [if_neg (by omega)]
    · split
      · rw [if_neg (by omega)]
      · exact parseUintM_digs l _ (fun c hc => hd c (by simp [hc])) (by omega)
theorem parseInt_pos (l : List UInt8) (h : digs l) (hne : l ≠ []) : Lib.parseIntB 64 l = if dval 0 l < 9223372036854775808 then .ok (dval 0 l : Nat) else .range := by
  cases l with
  | nil => exact absurd rfl hne
  | cons b r =>
    have hb := digitR_iff.1 (h b (by simp))
    have hm := parseUintM_digs (b :: r) 0 h (by omega)
    have e1 : (2 : Nat) ^ 64 - 1 = 18446744073709551615 := by decide
    have e2 : (2 : Nat) ^ (64 - 1) = 9223372036854775808 := by decide
    simp only [Lib.parseIntB]
    rw [if_neg (show ¬ (b.toNat = 43 ∨ b.toNat = 45) by omega), Lib.parseUintB, if_neg (by simp), e1, hm]
    have hn : ¬ b.toNat = 45 := by omega
    generalize dval 0 (b :: r) = D
    by_cases h1 : D ≤ 18446744073709551615
    · rw [if_pos h1]
      simp only [hn, e2, not_false_eq_true, true_and, false_and, if_false]
      by_cases h2 : D < 9223372036854775808
      · rw [if_neg (by omega), if_pos h2]
      · rw [if_pos (by omega), if_neg h2]
    · rw [if_neg h1]
      simp only
      rw [if_neg (by omega)]
theorem parseInt_neg (l : List UInt8) (h : digs l) (hne : l ≠ []) : Lib.parseIntB 64 (45 :: l) = if dval 0 l ≤ 9223372036854775808 then .ok (-(dval 0 l : Int)) else .range := by
  have hm := parseUintM_digs l 0 h (by omega)
  have e1 : (2 : Nat) ^ 64 - 1 = 18446744073709551615 := by decide
  have e2 : (2 : Nat) ^ (64 - 1) = 9223372036854775808 := by decide
  have e3 : (45 : UInt8).toNat = 45 := rfl
  simp only [Lib.parseIntB, e3]
  rw [if_pos (by simp), Lib.parseUintB, if_neg hne, e1, hm]
  generalize dval 0 l = D
  by_cases h1 : D ≤ 18446744073709551615
  · rw [if_pos h1]
    simp only [e2, not_true_eq_false, false_and, true_and, if_false, if_true]
    by_cases h2 : D ≤ 9223372036854775808
    · rw [if_neg (by omega), if_pos h2]
    · rw [if_pos (by omega), if_neg h2]
  · rw [if_neg h1]
    simp only
    rw [if_neg (by omega)]

/-! ### tokens -/
structure Tok where
  kind : UInt8
  text : List UInt8
  num : Int
  deriving DecidableEq

def Tok.C (t : Tok) (at_ : Nat) : List AV := [.v (.int .u8 t.kind.toNat), strV t.text, .v (.int .i64 t.num), .v (.int .i64 at_)]
def Tok.V (t : Tok) (at_ : Nat) : AV := .agg (t.C at_)
def zTok : Tok := ⟨0, [], 0⟩

/-- is the next byte one of these? -/
def nxt (p : Int → Bool) (l : List UInt8) : Bool :=
  match l with
  | [] => false
  | b :: _ => p b.toNat
theorem nxt_fst {p : Int → Bool} (h1 : p (-1) = false) (h2 : ∀ c, 128 ≤ c → p c = false) (l : List UInt8) : p (fst l) = nxt p l := by
  rw [fst_pred h1 h2]; cases l <;> rfl

def tailR (c : Int) : Bool := decide (c = 45) || wordR c
theorem tailR_hi (c : Int) (h : 128 ≤ c) : tailR c = false := by simp [tailR, wordR_hi c h]; omega

def sg (l : List UInt8) : Nat := if l.head? = some 45 then 1 else 0
def nDig (l : List UInt8) : Nat := (tw digitR (l.drop (sg l))).length
/-- the number that digits spell, with its sign -/
def numV (neg : Bool) (D : Nat) : Except Nat Int :=
  if neg = true then (if D ≤ 9223372036854775808 then .ok (-(D : Int)) else .error 7) else (if D < 9223372036854775808 then .ok (D : Int) else .error 7)
/-- a number at the beginning of a text -/
def numP (l : List UInt8) : Except Nat (Tok × Nat) :=
  if nxt tailR (l.drop (sg l + nDig l)) = true then .error 2 else
  match numV (decide (l.head? = some 45)) (dval 0 (tw digitR (l.drop (sg l)))) with
  | .ok v => .ok (⟨2, itoaS v, v⟩, sg l + nDig l)
  | .error e => .error e

def signs : List (List UInt8) := [[60, 61], [62, 61], [40], [41], [44], [42], [61], [60], [62]]
def isPre (p l : List UInt8) : Bool := decide (p.length ≤ l.length) && pre p l
/-- a token at the beginning of a text -/
def tokP (l : List UInt8) : Except Nat (Tok × Nat) :=
  if nxt letterR l = true then .ok (⟨1, (tw wordR l).map Lib.lowerB, 0⟩, (tw wordR l).length)
  else if (nxt digitR l || (decide (l.head? = some 45) && nxt digitR (l.drop 1))) = true then numP l
  else match signs.find? (fun p => isPre p l) with
    | some p => .ok (⟨3, p, 0⟩, p.length)
    | none => .error 2

/-- a text's tokens, with their places; N: the whole text's length -/
def lexP : Nat → Nat → List UInt8 → Except Nat (List (Tok × Nat))
  | 0, _, _ => .ok []
  | f + 1, N, l =>
    if skip false l = [] then .ok [] else
    match tokP (skip false l) with
    | .error e => .error e
    | .ok (t, n) => match lexP f N ((skip false l).drop n) with
      | .error e => .error e
      | .ok ts => .ok ((t, N - (skip false l).length) :: ts)
/-- .. or its first error -/
def lexT (l : List UInt8) : Except Nat (List (Tok × Nat)) := if 1000 < l.length then .error 10 else lexP (l.length + 1) l.length l

/-! ### facts -/
theorem tw_digs (l : List UInt8) : digs (tw digitR l) := fun b hb => by
  have := List.all_takeWhile (p := fun b : UInt8 => digitR b.toNat) (l := l)
  exact List.all_eq_true.1 this b hb
theorem tw_take (p : Int → Bool) (l : List UInt8) : l.take (tw p l).length = tw p l := by
  have h : tw p l <+: l := List.takeWhile_prefix _
  exact (List.prefix_iff_eq_take.1 h).symm
theorem tw_pos {p : Int → Bool} {l : List UInt8} (h : nxt p l = true) : 0 < (tw p l).length := by
  cases l with
  | nil => cases h
  | cons b r => simp only [nxt] at h; simp [tw, List.takeWhile_cons, h]
theorem tw_ne {p : Int → Bool} {l : List UInt8} (h : nxt p l = true) : tw p l ≠ [] := fun e => by
  have := tw_pos h; rw [e] at this; simp at this
theorem sg_le {l : List UInt8} (h : l ≠ []) : sg l ≤ l.length := by
  unfold sg; cases l with
  | nil => exact absurd rfl h
  | cons b r => split <;> simp
theorem nDig_le (l : List UInt8) : nDig l ≤ l.length - sg l := by
  have := tw_le digitR (l.drop (sg l)); rw [List.length_drop] at this; exact this
theorem numP_n {l : List UInt8} {t : Tok} {n : Nat} (h : numP l = .ok (t, n)) : n = sg l + nDig l := by
  unfold numP at h
  split at h
  · cases h
  · split at h
    · simp only [Except.ok.injEq, Prod.mk.injEq] at h; exact h.2.symm
    · cases h
set_option linter.unusedVariables false in
theorem tokP_n {l : List UInt8} (hl : l ≠ []) {t : Tok} {n : Nat} (h : tokP l = .ok (t, n)) : 1 ≤ n ∧ n ≤ l.length := by
  unfold tokP at h
  split at h
  · rename_i h1
    simp only [Except.ok.injEq, Prod.mk.injEq] at h
    obtain ⟨_, rfl⟩ := h
    refine ⟨?_, tw_le _ _⟩
    cases l with
    | nil => exact absurd rfl hl
    | cons b r => simp only [nxt] at h1; simp [tw, List.takeWhile_cons, wordR, h1]
  · split at h
    · rename_i h1
      obtain rfl := numP_n h
      have h2 := nDig_le l
      have h3 := sg_le hl
      refine ⟨?_, by omega⟩
      simp only [Bool.or_eq_true, Bool.and_eq_true, decide_eq_true_eq] at h1
      rcases h1 with h1 | ⟨h1, h4⟩
      · have : 0 < (tw digitR l).length := tw_pos h1
        by_cases h5 : l.head? = some 45
        · simp only [sg, h5, if_true]; omega
        · have : nDig l = (tw digitR l).length := by simp [nDig, sg, h5]
          omega
      · simp only [sg, h1, if_true]; omega
    · split at h
      · rename_i p hp
        simp only [Except.ok.injEq, Prod.mk.injEq] at h
        obtain ⟨_, rfl⟩ := h
        have h1 := List.find?_some hp
        have h2 := List.mem_of_find?_eq_some hp
        simp only [isPre, Bool.and_eq_true, decide_eq_true_eq] at h1
        refine ⟨?_, h1.1⟩
        simp only [signs, List.mem_cons, List.not_mem_nil, or_false] at h2
        rcases h2 with rfl | rfl | rfl | rfl | rfl | rfl | rfl | rfl | rfl <;> simp
      · cases h
end Go.Proofs.YtpbicmjkjihhnaaDoor
/-
  lex.number, lex.token.
-/
set_option maxRecDepth 100000
namespace Go.Proofs.YtpbicmjkjihhnaaDoor
open Go Go.Av

/-- what lex.number and lex.token hand back -/
def tokR : Except Nat (Tok × Nat) → AV
  | .ok (t, n) => .tup [t.V 0, .v (.int .i64 n), .v (.int .i64 0)]
  | .error e => .tup [zTok.V 0, .v (.int .i64 0), .v (.int .i64 e)]

theorem zTok_C : zTok.C 0 = [.v (.int .u8 0), .v (.string ⟨#[]⟩), .v (.int .i64 0), .v (.int .i64 0)] := rfl
theorem zfold : [AV.v (.int .u8 0), .v (.string ⟨#[]⟩), .v (.int .i64 0), .v (.int .i64 0)] = zTok.C 0 := rfl
theorem cells_str {l : List UInt8} : (strV l).cells = [strV l] := rfl
theorem tok_mkv {t : Tok} {n : Nat} : mkv true 4 (t.C n) = t.V n := rfl
theorem tok_len {t : Tok} {n : Nat} : (t.C n).length = 4 := rfl
theorem tok_put {t u : Tok} {n m : Nat} : putAt (t.C n) 0 (u.C m) = u.C m := rfl
theorem strNil : (AV.v (.string ⟨#[]⟩)) = strV [] := rfl

theorem tput0_1 {t : Tok} {n : Nat} : putAt (t.C n) 0 [.v (.int .u8 1)] = (⟨1, t.text, t.num⟩ : Tok).C n := rfl
theorem tput0_2 {t : Tok} {n : Nat} : putAt (t.C n) 0 [.v (.int .u8 2)] = (⟨2, t.text, t.num⟩ : Tok).C n := rfl
theorem tput0_3 {t : Tok} {n : Nat} : putAt (t.C n) 0 [.v (.int .u8 3)] = (⟨3, t.text, t.num⟩ : Tok).C n := rfl
theorem tput1 {t : Tok} {n : Nat} {l : List UInt8} : putAt (t.C n) 1 [strV l] = (⟨t.kind, l, t.num⟩ : Tok).C n := rfl
theorem tput1' {t : Tok} {n : Nat} {l : List UInt8} : putAt (t.C n) 1 [.v (.string ⟨l.toArray⟩)] = (⟨t.kind, l, t.num⟩ : Tok).C n := rfl
theorem tput2 {t : Tok} {n : Nat} {v : Int} : putAt (t.C n) 2 [.v (.int .i64 v)] = (⟨t.kind, t.text, v⟩ : Tok).C n := rfl
theorem tput3 {t : Tok} {n m : Nat} : putAt (t.C n) 3 [.v (.int .i64 (m : Int))] = t.C m := rfl
theorem tok_cells {t : Tok} {n : Nat} : (t.V n).cells = t.C n := rfl
theorem tok_aggc {t : Tok} {n : Nat} : (AV.agg (t.C n)) = t.V n := rfl
theorem rdA_tok {t : Tok} {n : Nat} : rdA true 4 0 (some (t.C n)) = some (t.V n) := rfl
theorem ldA_tok {s : Hp} {t : Tok} {n : Nat} : loadA true 4 s (.rptr (t.C n)) = some (t.V n) := rfl
theorem ldA_tok0 {s : Hp} {t : Tok} {n : Nat} : loadA false 1 s (.rptr (t.C n)) = some (.v (.int .u8 t.kind.toNat)) := rfl
theorem ldA_tok1 {s : Hp} {t : Tok} {n : Nat} : loadA false 1 s (.rptr ((t.C n).drop 1)) = some (strV t.text) := rfl
theorem ldA_tok2 {s : Hp} {t : Tok} {n : Nat} : loadA false 1 s (.rptr ((t.C n).drop 2)) = some (.v (.int .i64 t.num)) := rfl
theorem ldA_tok3 {s : Hp} {t : Tok} {n : Nat} : loadA false 1 s (.rptr ((t.C n).drop 3)) = some (.v (.int .i64 n)) := rfl
theorem rdA_tok0 {t : Tok} {n : Nat} : rdA false 1 0 (some (t.C n)) = some (.v (.int .u8 t.kind.toNat)) := rfl
theorem rdA_tok1 {t : Tok} {n : Nat} : rdA false 1 1 (some (t.C n)) = some (strV t.text) := rfl
theorem rdA_tok2 {t : Tok} {n : Nat} : rdA false 1 2 (some (t.C n)) = some (.v (.int .i64 t.num)) := rfl
theorem rdA_tok3 {t : Tok} {n : Nat} : rdA false 1 3 (some (t.C n)) = some (.v (.int .i64 n)) := rfl
def rTok :=
  And.intro @ldA_tok <|
  And.intro @ldA_tok0 <|
  And.intro @ldA_tok1 <|
  And.intro @ldA_tok2 <|
  And.intro @ldA_tok3 <|
  And.intro @rdA_tok0 <|
  And.intro @rdA_tok1 <|
  And.intro @rdA_tok2 <|
  And.intro @rdA_tok3 <|
  And.intro @rdA_tok <|
  And.intro @zfold <|
  And.intro @cells_str <|
  And.intro @tok_mkv <|
  And.intro @tok_len <|
  And.intro @tok_put <|
  And.intro @tput0_1 <|
  And.intro @tput0_2 <|
  And.intro @tput0_3 <|
  And.intro @tput1 <|
  And.intro @tput1' <|
  And.intro @tput2 <|
  And.intro @tput3 <|
  And.intro @tok_cells <|
  @tok_aggc
theorem numV_bound {neg : Bool} {D : Nat} {v : Int} (h : numV neg D = .ok v) : -9223372036854775808 ≤ v ∧ v ≤ 9223372036854775807 := by
  unfold numV at h
  split at h <;> split at h <;> simp only [Except.ok.injEq, reduceCtorEq] at h <;> omega

theorem isNeg_sg {l : List UInt8} : (if (decide (([45] : List UInt8).length ≤ l.length) && pre [45] l) = true then l.drop ([45] : List UInt8).length else l).length = l.length - sg l := by
  cases l with
  | nil => simp [sg]
  | cons b r =>
    by_cases hb : b = 45
    · subst hb; simp [pre, sg]
    · simp [pre, sg, hb]

theorem number_spec (l : List UInt8) (hne : l ≠ []) (hl : l.length ≤ 1000000) (hd : nxt digitR (l.drop (sg l)) = true) (s : Hp) (hT : Tabs s) :
    AC Tryd.prog 32 [strV l] s fun r s' => s.sub s' ∧ r = tokR (numP l) := by
  refine AC_run hm prep32 (by simp) ?_
  have e45 : (.const (.string ⟨#[45]⟩) : Operand) = .const (.string ⟨([45] : List UInt8).toArray⟩) := rfl
  have hsg := sg_le hne
  have hnd := nDig_le l
  simp (dsimp := false) (implicitDefEqProofs := false) (maxSteps := 1000000) (disch := first | omega | assumption | (simp only [rL, Nat.reduceAdd]; done) | (simp only [rL, Nat.reduceAdd]; omega)) only [↓rD, rU, ev, ofConst, ofCell, ↓reduceIte, Nat.reduceEqDiff, Nat.reduceAdd, Nat.reduceSub, Nat.reduceMul, Nat.reduceLeDiff, Nat.reduceLT, Int.reduceNeg, Int.reduceToNat, Int.reduceAdd, Int.reduceSub, Int.reduceMul, Int.reduceLT, Int.reduceLE, Int.reduceEq, rX, List.drop_succ_cons, ↓rF, rG, ne_eq, not_true_eq_false, not_false_eq_true, Int.reduceNe, List.getElem?_cons_zero, List.getElem?_cons_succ, ↓rK, rM]
  refine newK_intro fun l2 n2 => ?_
  have hsub0 : s.sub (s.set l2 (.cells (zTok.C 0))) := Hp.sub_new Hp.sub_refl n2
  simp (dsimp := false) (implicitDefEqProofs := false) (maxSteps := 1000000) (disch := first | omega | assumption | (simp only [rL, Nat.reduceAdd]; done) | (simp only [rL, Nat.reduceAdd]; omega)) only [↓rD, rU, ev, ofConst, ofCell, ↓reduceIte, Nat.reduceEqDiff, Nat.reduceAdd, Nat.reduceSub, Nat.reduceMul, Nat.reduceLeDiff, Nat.reduceLT, Int.reduceNeg, Int.reduceToNat, Int.reduceAdd, Int.reduceSub, Int.reduceMul, Int.reduceLT, Int.reduceLE, Int.reduceEq, rX, List.drop_succ_cons, ↓rF, rG, ne_eq, not_true_eq_false, not_false_eq_true, Int.reduceNe, List.getElem?_cons_zero, List.getElem?_cons_succ, ↓rK, rM, strV]
  refine call_intro (trimPrefix_spec l [45] _) ?_
  rintro _ s1 ⟨rfl, rfl⟩
  have hlen := isNeg_sg (l := l)
  generalize (if (decide (([45] : List UInt8).length ≤ l.length) && pre [45] l) = true then l.drop ([45] : List UInt8).length else l) = q at hlen
  have e1 : (l.length : Int) - (q.length : Int) = ((sg l : Nat) : Int) := by omega
  simp (dsimp := false) (implicitDefEqProofs := false) (maxSteps := 1000000) (disch := first | omega | assumption | (simp only [rL, Nat.reduceAdd]; done) | (simp only [rL, Nat.reduceAdd]; omega)) only [↓rD, rU, ev, ofConst, ofCell, ↓reduceIte, Nat.reduceEqDiff, Nat.reduceAdd, Nat.reduceSub, Nat.reduceMul, Nat.reduceLeDiff, Nat.reduceLT, Int.reduceNeg, Int.reduceToNat, Int.reduceAdd, Int.reduceSub, Int.reduceMul, Int.reduceLT, Int.reduceLE, Int.reduceEq, rX, List.drop_succ_cons, ↓rF, rG, ne_eq, not_true_eq_false, not_false_eq_true, Int.reduceNe, List.getElem?_cons_zero, List.getElem?_cons_succ, ↓rK, rM, strV, e1]
  refine call_intro (far_spec digitR false digitR_hi (l.drop (sg l)) _ _ (by rw [List.length_drop]; omega) (pays_of (by kernel_rfl) isDigit_spec)) ?_
  rintro _ s1 ⟨hs1, rfl⟩
  have e2 : ((sg l : Nat) : Int) + ((tw digitR (l.drop (sg l))).length : Nat) = ((sg l + nDig l : Nat) : Int) := by simp [nDig]
  have hn : sg l + nDig l ≤ l.length := by omega
  simp (dsimp := false) (implicitDefEqProofs := false) (maxSteps := 1000000) (disch := first | omega | assumption | (simp only [rL, Nat.reduceAdd]; done) | (simp only [rL, Nat.reduceAdd]; omega)) only [↓rD, rU, ev, ofConst, ofCell, ↓reduceIte, Nat.reduceEqDiff, Nat.reduceAdd, Nat.reduceSub, Nat.reduceMul, Nat.reduceLeDiff, Nat.reduceLT, Int.reduceNeg, Int.reduceToNat, Int.reduceAdd, Int.reduceSub, Int.reduceMul, Int.reduceLT, Int.reduceLE, Int.reduceEq, rX, List.drop_succ_cons, ↓rF, rG, ne_eq, not_true_eq_false, not_false_eq_true, Int.reduceNe, List.getElem?_cons_zero, List.getElem?_cons_succ, ↓rK, rM, strV, e2]
  refine call_intro (first_spec (l.drop (sg l + nDig l)) _) ?_
  rintro _ s2 ⟨hs2, rfl⟩
  have hg : s2 l2 = some (.cells (zTok.C 0)) := hs2 _ _ (hs1 _ _ (Hp.set_same _ _ _))
  have hs12 : s.sub s2 := Hp.sub_trans hsub0 (Hp.sub_trans hs1 hs2)
  have hT2 := hT.mono hs12
  have hnx := nxt_fst (p := tailR) rfl tailR_hi (l.drop (sg l + nDig l))
  have z4 := tok_len (t := zTok) (n := 0)
  -- an error: nothing is handed back
  have fin : ∀ (e : Nat), numP l = .error e → ∀ s3, s2.sub s3 → ∃ s', s'.sub (s3.set l2 (.cells (zTok.C 0))) ∧ s.sub s' ∧ AV.tup [zTok.V 0, .v (.int .i64 0), .v (.int .i64 e)] = tokR (numP l) := fun e he s3 hs3 => by
    refine ⟨_, Hp.sub_refl, ?_, by rw [he]; rfl⟩
    exact Hp.sub_new (Hp.sub_trans hs12 hs3) n2
  cases hc : nxt tailR (l.drop (sg l + nDig l)) with
  | true =>
    have hnum : numP l = .error 2 := by simp [numP, hc]
    by_cases c45 : fst (l.drop (sg l + nDig l)) = 45
    · simp (dsimp := false) (implicitDefEqProofs := false) (maxSteps := 1000000) (disch := first | omega | assumption | (simp only [rL, Nat.reduceAdd]; done) | (simp only [rL, Nat.reduceAdd]; omega)) only [↓rD, rU, ev, ofConst, ofCell, ↓reduceIte, Nat.reduceEqDiff, Nat.reduceAdd, Nat.reduceSub, Nat.reduceMul, Nat.reduceLeDiff, Nat.reduceLT, Int.reduceNeg, Int.reduceToNat, Int.reduceAdd, Int.reduceSub, Int.reduceMul, Int.reduceLT, Int.reduceLE, Int.reduceEq, rX, List.drop_succ_cons, ↓rF, rG, ne_eq, not_true_eq_false, not_false_eq_true, Int.reduceNe, List.getElem?_cons_zero, List.getElem?_cons_succ, ↓rK, rM, c45, rTok, Hp.stA_of hg, z4]
      exact fin 2 hnum s2 Hp.sub_refl
    · have hw : wordR (fst (l.drop (sg l + nDig l))) = true := by
        rw [hc] at hnx; simpa [tailR, c45] using hnx
      simp (dsimp := false) (implicitDefEqProofs := false) (maxSteps := 1000000) (disch := first | omega | assumption | (simp only [rL, Nat.reduceAdd]; done) | (simp only [rL, Nat.reduceAdd]; omega)) only [↓rD, rU, ev, ofConst, ofCell, ↓reduceIte, Nat.reduceEqDiff, Nat.reduceAdd, Nat.reduceSub, Nat.reduceMul, Nat.reduceLeDiff, Nat.reduceLT, Int.reduceNeg, Int.reduceToNat, Int.reduceAdd, Int.reduceSub, Int.reduceMul, Int.reduceLT, Int.reduceLE, Int.reduceEq, rX, List.drop_succ_cons, ↓rF, rG, ne_eq, not_true_eq_false, not_false_eq_true, Int.reduceNe, List.getElem?_cons_zero, List.getElem?_cons_succ, ↓rK, rM, c45]
      refine call_intro (inWord_spec _ _) ?_
      rintro _ s2 ⟨rfl, rfl⟩
      simp (dsimp := false) (implicitDefEqProofs := false) (maxSteps := 1000000) (disch := first | omega | assumption | (simp only [rL, Nat.reduceAdd]; done) | (simp only [rL, Nat.reduceAdd]; omega)) only [↓rD, rU, ev, ofConst, ofCell, ↓reduceIte, Nat.reduceEqDiff, Nat.reduceAdd, Nat.reduceSub, Nat.reduceMul, Nat.reduceLeDiff, Nat.reduceLT, Int.reduceNeg, Int.reduceToNat, Int.reduceAdd, Int.reduceSub, Int.reduceMul, Int.reduceLT, Int.reduceLE, Int.reduceEq, rX, List.drop_succ_cons, ↓rF, rG, ne_eq, not_true_eq_false, not_false_eq_true, Int.reduceNe, List.getElem?_cons_zero, List.getElem?_cons_succ, ↓rK, rM, c45, hw, rTok, Hp.stA_of hg, z4]
      exact fin 2 hnum s2 Hp.sub_refl
  | false =>
    have c45 : ¬ fst (l.drop (sg l + nDig l)) = 45 := fun h => by
      rw [h, hc] at hnx; simp [tailR] at hnx
    have hw : wordR (fst (l.drop (sg l + nDig l))) = false := by
      rw [hc] at hnx; simpa [tailR, c45] using hnx
    simp (dsimp := false) (implicitDefEqProofs := false) (maxSteps := 1000000) (disch := first | omega | assumption | (simp only [rL, Nat.reduceAdd]; done) | (simp only [rL, Nat.reduceAdd]; omega)) only [↓rD, rU, ev, ofConst, ofCell, ↓reduceIte, Nat.reduceEqDiff, Nat.reduceAdd, Nat.reduceSub, Nat.reduceMul, Nat.reduceLeDiff, Nat.reduceLT, Int.reduceNeg, Int.reduceToNat, Int.reduceAdd, Int.reduceSub, Int.reduceMul, Int.reduceLT, Int.reduceLE, Int.reduceEq, rX, List.drop_succ_cons, ↓rF, rG, ne_eq, not_true_eq_false, not_false_eq_true, Int.reduceNe, List.getElem?_cons_zero, List.getElem?_cons_succ, ↓rK, rM, c45]
    refine call_intro (inWord_spec _ _) ?_
    rintro _ s2 ⟨rfl, rfl⟩
    simp (dsimp := false) (implicitDefEqProofs := false) (maxSteps := 1000000) (disch := first | omega | assumption | (simp only [rL, Nat.reduceAdd]; done) | (simp only [rL, Nat.reduceAdd]; omega)) only [↓rD, rU, ev, ofConst, ofCell, ↓reduceIte, Nat.reduceEqDiff, Nat.reduceAdd, Nat.reduceSub, Nat.reduceMul, Nat.reduceLeDiff, Nat.reduceLT, Int.reduceNeg, Int.reduceToNat, Int.reduceAdd, Int.reduceSub, Int.reduceMul, Int.reduceLT, Int.reduceLE, Int.reduceEq, rX, List.drop_succ_cons, ↓rF, rG, ne_eq, not_true_eq_false, not_false_eq_true, Int.reduceNe, List.getElem?_cons_zero, List.getElem?_cons_succ, ↓rK, rM, c45, hw, strV]
    have htake : l.take (sg l + nDig l) = (if l.head? = some 45 then [45] else []) ++ tw digitR (l.drop (sg l)) := by
      cases l with
      | nil => exact absurd rfl hne
      | cons b r =>
        by_cases hb : b = 45
        · subst hb
          have : sg (45 :: r) = 1 := by simp [sg]
          simp only [nDig, this, List.head?_cons, if_true, List.drop_succ_cons, List.drop_zero]
          rw [Nat.add_comm, List.take_succ_cons, tw_take]; rfl
        · have : sg (b :: r) = 0 := by simp [sg, hb]
          simp only [nDig, this, List.drop_zero, Nat.zero_add, tw_take]
          simp [hb]
    have hdg := tw_digs (l.drop (sg l))
    have hne2 := tw_ne hd
    have hlt : (l.take (sg l + nDig l)).length ≤ 1000000 := by rw [List.length_take]; omega
    generalize hD : dval 0 (tw digitR (l.drop (sg l))) = D at *
    have hparse : Lib.parseIntB 64 (l.take (sg l + nDig l)) = (match numV (decide (l.head? = some 45)) D with | .ok v => .ok v | .error _ => .range) := by
      rw [htake]
      by_cases h45 : l.head? = some 45
      · simp only [h45, if_true, List.singleton_append, decide_true, numV]
        rw [parseInt_neg _ hdg hne2, hD]
        split <;> rfl
      · simp only [h45, if_false, List.nil_append, decide_false, numV, Bool.false_eq_true]
        rw [parseInt_pos _ hdg hne2, hD]
        split <;> rfl
    cases hv : numV (decide (l.head? = some 45)) D with
    | ok v =>
      have hb := numV_bound hv
      rw [hv] at hparse
      refine call_intro (parseOk_spec _ v (by omega) hparse _) ?_
      rintro _ s2 ⟨rfl, rfl⟩
      simp (dsimp := false) (implicitDefEqProofs := false) (maxSteps := 1000000) (disch := first | omega | assumption | (simp only [rL, Nat.reduceAdd]; done) | (simp only [rL, Nat.reduceAdd]; omega)) only [↓rD, rU, ev, ofConst, ofCell, ↓reduceIte, Nat.reduceEqDiff, Nat.reduceAdd, Nat.reduceSub, Nat.reduceMul, Nat.reduceLeDiff, Nat.reduceLT, Int.reduceNeg, Int.reduceToNat, Int.reduceAdd, Int.reduceSub, Int.reduceMul, Int.reduceLT, Int.reduceLE, Int.reduceEq, rX, List.drop_succ_cons, ↓rF, rG, ne_eq, not_true_eq_false, not_false_eq_true, Int.reduceNe, List.getElem?_cons_zero, List.getElem?_cons_succ, ↓rK, rM, tupV]
      refine call_intro (formatInt_spec v hb.1 hb.2 _ hT2) ?_
      rintro _ s2 ⟨rfl, rfl⟩
      have etok : [AV.v (.int .u8 2), strV (Lib.itoa v), .v (.int .i64 v), .v (.int .i64 0)] = (⟨2, itoaS v, v⟩ : Tok).C 0 := by rw [itoaS_eq v hb.1 hb.2]; rfl
      simp (dsimp := false) (implicitDefEqProofs := false) (maxSteps := 1000000) (disch := first | omega | assumption | (simp only [rL, Nat.reduceAdd]; done) | (simp only [rL, Nat.reduceAdd]; omega)) only [↓rD, rU, ev, ofConst, ofCell, ↓reduceIte, Nat.reduceEqDiff, Nat.reduceAdd, Nat.reduceSub, Nat.reduceMul, Nat.reduceLeDiff, Nat.reduceLT, Int.reduceNeg, Int.reduceToNat, Int.reduceAdd, Int.reduceSub, Int.reduceMul, Int.reduceLT, Int.reduceLE, Int.reduceEq, rX, List.drop_succ_cons, ↓rF, rG, ne_eq, not_true_eq_false, not_false_eq_true, Int.reduceNe, List.getElem?_cons_zero, List.getElem?_cons_succ, ↓rK, rM, rTok, Hp.stA_of hg]
      refine ⟨_, Hp.sub_refl, Hp.sub_new hs12 n2, ?_⟩
      have : numP l = .ok (⟨2, itoaS v, v⟩, sg l + nDig l) := by simp [numP, hc, hD, hv]
      rw [this, itoaS_eq v hb.1 hb.2]; rfl
    | error e =>
      rw [hv] at hparse
      have he : e = 7 := by
        unfold numV at hv
        split at hv <;> split at hv <;> simp only [Except.error.injEq, reduceCtorEq] at hv <;> exact hv.symm
      subst he
      refine call_intro (parseRange_spec _ (by omega) hparse _ hT2) ?_
      rintro _ s2 ⟨rfl, v, t, x, rfl⟩
      simp (dsimp := false) (implicitDefEqProofs := false) (maxSteps := 1000000) (disch := first | omega | assumption | (simp only [rL, Nat.reduceAdd]; done) | (simp only [rL, Nat.reduceAdd]; omega)) only [↓rD, rU, ev, ofConst, ofCell, ↓reduceIte, Nat.reduceEqDiff, Nat.reduceAdd, Nat.reduceSub, Nat.reduceMul, Nat.reduceLeDiff, Nat.reduceLT, Int.reduceNeg, Int.reduceToNat, Int.reduceAdd, Int.reduceSub, Int.reduceMul, Int.reduceLT, Int.reduceLE, Int.reduceEq, rX, List.drop_succ_cons, ↓rF, rG, ne_eq, not_true_eq_false, not_false_eq_true, Int.reduceNe, List.getElem?_cons_zero, List.getElem?_cons_succ, ↓rK, rM, rTok, Hp.stA_of hg, z4]
      exact fin 7 (by simp [numP, hc, hD, hv]) s2 Hp.sub_refl

theorem lower_spec (l : List UInt8) (hl : l.length ≤ 1000000) (s : Hp) : AC Tryd.prog 30 [strV (tw wordR l)] s fun r s' => s' = s ∧ r = strV ((tw wordR l).map Lib.lowerB) := by
  refine toLower_spec _ (by have := tw_le wordR l; omega) (fun b hb => ?_) s
  have := List.all_eq_true.1 (List.all_takeWhile (p := fun b : UInt8 => wordR b.toNat) (l := l)) b hb
  have hlt := b.toNat_lt
  rcases Nat.lt_or_ge b.toNat 128 with h | h
  · exact h
  · rw [wordR_hi _ (by omega)] at this; cases this

theorem signs_loop {p : List UInt8} {l : List UInt8} {j : Nat} (hj : j < 9) (hp : signs.getD j [] = p) (hall : ∀ i, i < j → isPre (signs.getD i []) l = false) (h : isPre p l = true) : signs.find? (fun p => isPre p l) = some p := by
  have this : signs = signs.take j ++ p :: signs.drop (j + 1) := by
    have hl : j < signs.length := by simpa [signs] using hj
    rw [← hp, List.getD_eq_getElem?_getD, List.getElem?_eq_getElem hl, Option.getD_some, ← List.drop_eq_getElem_cons hl, List.take_append_drop]
  rw [this, List.find?_append]
  have hn : (signs.take j).find? (fun p => isPre p l) = none := by
    rw [List.find?_eq_none]
    intro x hx
    obtain ⟨i, hi, rfl⟩ := List.mem_iff_getElem.1 hx
    simp only [List.length_take] at hi
    have hl : i < signs.length := by omega
    have := hall i (by omega)
    rw [List.getD_eq_getElem?_getD, List.getElem?_eq_getElem hl, Option.getD_some] at this
    simp [this]
  rw [hn, Option.none_or, List.find?_cons, h]
theorem signs_none {l : List UInt8} (hall : ∀ i, i < 9 → isPre (signs.getD i []) l = false) : signs.find? (fun p => isPre p l) = none := by
  rw [List.find?_eq_none]
  intro x hx
  obtain ⟨i, hi, rfl⟩ := List.mem_iff_getElem.1 hx
  have := hall i (by simpa [signs] using hi)
  rw [List.getD_eq_getElem?_getD, List.getElem?_eq_getElem hi, Option.getD_some] at this
  simp [this]

theorem putAt_z1 {a x : AV} {cs : List AV} : putAt (a :: cs) 0 [x] = x :: cs := rfl
theorem putAt_sc {a : AV} {cs xs : List AV} {n : Nat} : putAt (a :: cs) (n + 1) xs = a :: putAt cs n xs := by
  simp [putAt, Nat.add_right_comm]
theorem rep9 {x : AV} : List.replicate 9 x = [x, x, x, x, x, x, x, x, x] := rfl
theorem signs_agg : (AV.agg [.v (.string ⟨#[60, 61]⟩), .v (.string ⟨#[62, 61]⟩), .v (.string ⟨#[40]⟩), .v (.string ⟨#[41]⟩), .v (.string ⟨#[44]⟩), .v (.string ⟨#[42]⟩), .v (.string ⟨#[61]⟩), .v (.string ⟨#[60]⟩), .v (.string ⟨#[62]⟩)]) = .agg (signs.map strV) := rfl
theorem signs_at {j : Nat} (hj : j < 9) : idxAA false 1 9 (.agg (signs.map strV)) (.v (.int .i64 (j : Int))) = some (strV (signs.getD j [])) := by
  have hl : j < signs.length := by simpa [signs] using hj
  have h9 : signs.length = 9 := rfl
  simp only [idxAA]
  rw [if_pos (by simp [h9]; omega)]
  have e : mkv false 1 ((signs.map strV).drop j) = strV (signs.getD j []) := by
    rw [List.drop_eq_getElem_cons (by simpa using hl)]
    simp [mkv, List.getD, hl]
  simp only [Int.toNat_natCast, Nat.mul_one, e]

theorem token_spec (l : List UInt8) (hne : l ≠ []) (hl : l.length ≤ 1000000) (s : Hp) (hT : Tabs s) :
    AC Tryd.prog 14 [strV l] s fun r s' => s.sub s' ∧ r = tokR (tokP l) := by
  refine AC_run hm prep14 (by simp) ?_
  have hpos : 0 < l.length := List.length_pos_iff.2 hne
  simp (dsimp := false) (implicitDefEqProofs := false) (maxSteps := 1000000) (disch := first | omega | assumption | (simp only [rL, Nat.reduceAdd]; done) | (simp only [rL, Nat.reduceAdd]; omega)) only [↓rD, rU, ev, ofConst, ofCell, ↓reduceIte, Nat.reduceEqDiff, Nat.reduceAdd, Nat.reduceSub, Nat.reduceMul, Nat.reduceLeDiff, Nat.reduceLT, Int.reduceNeg, Int.reduceToNat, Int.reduceAdd, Int.reduceSub, Int.reduceMul, Int.reduceLT, Int.reduceLE, Int.reduceEq, rX, List.drop_succ_cons, ↓rF, rG, ne_eq, not_true_eq_false, not_false_eq_true, Int.reduceNe, List.getElem?_cons_zero, List.getElem?_cons_succ, ↓rK, rM]
  refine newK_intro fun l2 n2 => ?_
  have hsub0 : s.sub (s.set l2 (.cells (zTok.C 0))) := Hp.sub_new Hp.sub_refl n2
  simp (dsimp := false) (implicitDefEqProofs := false) (maxSteps := 1000000) (disch := first | omega | assumption | (simp only [rL, Nat.reduceAdd]; done) | (simp only [rL, Nat.reduceAdd]; omega)) only [↓rD, rU, ev, ofConst, ofCell, ↓reduceIte, Nat.reduceEqDiff, Nat.reduceAdd, Nat.reduceSub, Nat.reduceMul, Nat.reduceLeDiff, Nat.reduceLT, Int.reduceNeg, Int.reduceToNat, Int.reduceAdd, Int.reduceSub, Int.reduceMul, Int.reduceLT, Int.reduceLE, Int.reduceEq, rX, List.drop_succ_cons, ↓rF, rG, ne_eq, not_true_eq_false, not_false_eq_true, Int.reduceNe, List.getElem?_cons_zero, List.getElem?_cons_succ, ↓rK, rM, strV]
  refine call_intro (first_spec l _) ?_
  rintro _ s1 ⟨hs1, rfl⟩
  have hg : s1 l2 = some (.cells (zTok.C 0)) := hs1 _ _ (Hp.set_same _ _ _)
  have h01 : s.sub s1 := Hp.sub_trans hsub0 hs1
  have z4 := tok_len (t := zTok) (n := 0)
  simp (dsimp := false) (implicitDefEqProofs := false) (maxSteps := 1000000) (disch := first | omega | assumption | (simp only [rL, Nat.reduceAdd]; done) | (simp only [rL, Nat.reduceAdd]; omega)) only [↓rD, rU, ev, ofConst, ofCell, ↓reduceIte, Nat.reduceEqDiff, Nat.reduceAdd, Nat.reduceSub, Nat.reduceMul, Nat.reduceLeDiff, Nat.reduceLT, Int.reduceNeg, Int.reduceToNat, Int.reduceAdd, Int.reduceSub, Int.reduceMul, Int.reduceLT, Int.reduceLE, Int.reduceEq, rX, List.drop_succ_cons, ↓rF, rG, ne_eq, not_true_eq_false, not_false_eq_true, Int.reduceNe, List.getElem?_cons_zero, List.getElem?_cons_succ, ↓rK, rM]
  refine call_intro (isLetter_spec _ _) ?_
  rintro _ s1 ⟨rfl, rfl⟩
  have hL := nxt_fst (p := letterR) rfl letterR_hi l
  have hD := nxt_fst (p := digitR) rfl digitR_hi l
  rw [hL]
  cases h1 : nxt letterR l with
  | true =>
    simp (dsimp := false) (implicitDefEqProofs := false) (maxSteps := 1000000) (disch := first | omega | assumption | (simp only [rL, Nat.reduceAdd]; done) | (simp only [rL, Nat.reduceAdd]; omega)) only [↓rD, rU, ev, ofConst, ofCell, ↓reduceIte, Nat.reduceEqDiff, Nat.reduceAdd, Nat.reduceSub, Nat.reduceMul, Nat.reduceLeDiff, Nat.reduceLT, Int.reduceNeg, Int.reduceToNat, Int.reduceAdd, Int.reduceSub, Int.reduceMul, Int.reduceLT, Int.reduceLE, Int.reduceEq, rX, List.drop_succ_cons, ↓rF, rG, ne_eq, not_true_eq_false, not_false_eq_true, Int.reduceNe, List.getElem?_cons_zero, List.getElem?_cons_succ, ↓rK, rM, strV]
    refine call_intro (far_spec wordR false wordR_hi l _ _ (by omega) (pays_of (by kernel_rfl) inWord_spec)) ?_
    rintro _ s2 ⟨hs2, rfl⟩
    have hle := tw_le wordR l
    have htk := tw_take wordR l
    simp (dsimp := false) (implicitDefEqProofs := false) (maxSteps := 1000000) (disch := first | omega | assumption | (simp only [rL, Nat.reduceAdd]; done) | (simp only [rL, Nat.reduceAdd]; omega)) only [↓rD, rU, ev, ofConst, ofCell, ↓reduceIte, Nat.reduceEqDiff, Nat.reduceAdd, Nat.reduceSub, Nat.reduceMul, Nat.reduceLeDiff, Nat.reduceLT, Int.reduceNeg, Int.reduceToNat, Int.reduceAdd, Int.reduceSub, Int.reduceMul, Int.reduceLT, Int.reduceLE, Int.reduceEq, rX, List.drop_succ_cons, ↓rF, rG, ne_eq, not_true_eq_false, not_false_eq_true, Int.reduceNe, List.getElem?_cons_zero, List.getElem?_cons_succ, ↓rK, rM, strV, htk]
    refine call_intro (lower_spec l hl _) ?_
    rintro _ s2 ⟨rfl, rfl⟩
    have hg2 := hs2 _ _ hg
    simp (dsimp := false) (implicitDefEqProofs := false) (maxSteps := 1000000) (disch := first | omega | assumption | (simp only [rL, Nat.reduceAdd]; done) | (simp only [rL, Nat.reduceAdd]; omega)) only [↓rD, rU, ev, ofConst, ofCell, ↓reduceIte, Nat.reduceEqDiff, Nat.reduceAdd, Nat.reduceSub, Nat.reduceMul, Nat.reduceLeDiff, Nat.reduceLT, Int.reduceNeg, Int.reduceToNat, Int.reduceAdd, Int.reduceSub, Int.reduceMul, Int.reduceLT, Int.reduceLE, Int.reduceEq, rX, List.drop_succ_cons, ↓rF, rG, ne_eq, not_true_eq_false, not_false_eq_true, Int.reduceNe, List.getElem?_cons_zero, List.getElem?_cons_succ, ↓rK, rM, rTok, Hp.stA_of hg2, z4]
    refine ⟨_, Hp.sub_refl, Hp.sub_new (Hp.sub_trans h01 hs2) n2, ?_⟩
    simp only [tokP, h1, if_true]; rfl
  | false =>
    simp (dsimp := false) (implicitDefEqProofs := false) (maxSteps := 1000000) (disch := first | omega | assumption | (simp only [rL, Nat.reduceAdd]; done) | (simp only [rL, Nat.reduceAdd]; omega)) only [↓rD, rU, ev, ofConst, ofCell, ↓reduceIte, Nat.reduceEqDiff, Nat.reduceAdd, Nat.reduceSub, Nat.reduceMul, Nat.reduceLeDiff, Nat.reduceLT, Int.reduceNeg, Int.reduceToNat, Int.reduceAdd, Int.reduceSub, Int.reduceMul, Int.reduceLT, Int.reduceLE, Int.reduceEq, rX, List.drop_succ_cons, ↓rF, rG, ne_eq, not_true_eq_false, not_false_eq_true, Int.reduceNe, List.getElem?_cons_zero, List.getElem?_cons_succ, ↓rK, rM]
    refine call_intro (isDigit_spec _ _) ?_
    rintro _ s1 ⟨rfl, rfl⟩
    rw [hD]
    have hmin : (fst l = 45) ↔ l.head? = some 45 := by
      cases l with
      | nil => exact absurd rfl hne
      | cons b r =>
        by_cases hb : b.toNat < 128
        · rw [fst_low hb]
          constructor
          · intro h; have : b = 45 := UInt8.toNat_inj.1 (show b.toNat = 45 by omega); simp [this]
          · intro h; simp at h; subst h; rfl
        · have hh := fst_high (b := b) (r := r) (by omega)
          constructor
          · intro h; omega
          · intro h; simp at h; subst h; exact absurd (by decide) hb
    simp (dsimp := false) (implicitDefEqProofs := false) (maxSteps := 1000000) (disch := first | omega | assumption | (simp only [rL, Nat.reduceAdd]; done) | (simp only [rL, Nat.reduceAdd]; omega)) only [↓rD, rU, ev, ofConst, ofCell, ↓reduceIte, Nat.reduceEqDiff, Nat.reduceAdd, Nat.reduceSub, Nat.reduceMul, Nat.reduceLeDiff, Nat.reduceLT, Int.reduceNeg, Int.reduceToNat, Int.reduceAdd, Int.reduceSub, Int.reduceMul, Int.reduceLT, Int.reduceLE, Int.reduceEq, rX, List.drop_succ_cons, ↓rF, rG, ne_eq, not_true_eq_false, not_false_eq_true, Int.reduceNe, List.getElem?_cons_zero, List.getElem?_cons_succ, ↓rK, rM]
    refine cond_join (fun f s2 => s1.sub s2 ∧ f 0 = strV l ∧ f 2 = .ptr l2 0 ∧ f 22 = .v (.bool (nxt digitR l || (decide (l.head? = some 45) && nxt digitR (l.drop 1))))) ?_ ?_ ?_
    · intro h2
      simp (dsimp := false) (implicitDefEqProofs := false) (maxSteps := 1000000) (disch := first | omega | assumption | (simp only [rL, Nat.reduceAdd]; done) | (simp only [rL, Nat.reduceAdd]; omega)) only [↓rD, rU, ev, ofConst, ofCell, ↓reduceIte, Nat.reduceEqDiff, Nat.reduceAdd, Nat.reduceSub, Nat.reduceMul, Nat.reduceLeDiff, Nat.reduceLT, Int.reduceNeg, Int.reduceToNat, Int.reduceAdd, Int.reduceSub, Int.reduceMul, Int.reduceLT, Int.reduceLE, Int.reduceEq, rX, List.drop_succ_cons, ↓rF, rG, ne_eq, not_true_eq_false, not_false_eq_true, Int.reduceNe, List.getElem?_cons_zero, List.getElem?_cons_succ, ↓rK, rM, h2]
      exact ⟨Hp.sub_refl, by simp⟩
    · intro h2
      by_cases c45 : fst l = 45
      · have h45 := hmin.1 c45
        simp (dsimp := false) (implicitDefEqProofs := false) (maxSteps := 1000000) (disch := first | omega | assumption | (simp only [rL, Nat.reduceAdd]; done) | (simp only [rL, Nat.reduceAdd]; omega)) only [↓rD, rU, ev, ofConst, ofCell, ↓reduceIte, Nat.reduceEqDiff, Nat.reduceAdd, Nat.reduceSub, Nat.reduceMul, Nat.reduceLeDiff, Nat.reduceLT, Int.reduceNeg, Int.reduceToNat, Int.reduceAdd, Int.reduceSub, Int.reduceMul, Int.reduceLT, Int.reduceLE, Int.reduceEq, rX, List.drop_succ_cons, ↓rF, rG, ne_eq, not_true_eq_false, not_false_eq_true, Int.reduceNe, List.getElem?_cons_zero, List.getElem?_cons_succ, ↓rK, rM, c45, strV]
        refine call_intro (first_spec (l.drop 1) _) ?_
        rintro _ s2 ⟨hs2, rfl⟩
        simp (dsimp := false) (implicitDefEqProofs := false) (maxSteps := 1000000) (disch := first | omega | assumption | (simp only [rL, Nat.reduceAdd]; done) | (simp only [rL, Nat.reduceAdd]; omega)) only [↓rD, rU, ev, ofConst, ofCell, ↓reduceIte, Nat.reduceEqDiff, Nat.reduceAdd, Nat.reduceSub, Nat.reduceMul, Nat.reduceLeDiff, Nat.reduceLT, Int.reduceNeg, Int.reduceToNat, Int.reduceAdd, Int.reduceSub, Int.reduceMul, Int.reduceLT, Int.reduceLE, Int.reduceEq, rX, List.drop_succ_cons, ↓rF, rG, ne_eq, not_true_eq_false, not_false_eq_true, Int.reduceNe, List.getElem?_cons_zero, List.getElem?_cons_succ, ↓rK, rM, c45]
        refine call_intro (isDigit_spec _ _) ?_
        rintro _ s2 ⟨rfl, rfl⟩
        rw [nxt_fst (p := digitR) rfl digitR_hi (l.drop 1)]
        simp (dsimp := false) (implicitDefEqProofs := false) (maxSteps := 1000000) (disch := first | omega | assumption | (simp only [rL, Nat.reduceAdd]; done) | (simp only [rL, Nat.reduceAdd]; omega)) only [↓rD, rU, ev, ofConst, ofCell, ↓reduceIte, Nat.reduceEqDiff, Nat.reduceAdd, Nat.reduceSub, Nat.reduceMul, Nat.reduceLeDiff, Nat.reduceLT, Int.reduceNeg, Int.reduceToNat, Int.reduceAdd, Int.reduceSub, Int.reduceMul, Int.reduceLT, Int.reduceLE, Int.reduceEq, rX, List.drop_succ_cons, ↓rF, rG, ne_eq, not_true_eq_false, not_false_eq_true, Int.reduceNe, List.getElem?_cons_zero, List.getElem?_cons_succ, ↓rK, rM, c45]
        exact ⟨hs2, by simp [h2, h45]⟩
      · have h45 : ¬ l.head? = some 45 := fun h => c45 (hmin.2 h)
        simp (dsimp := false) (implicitDefEqProofs := false) (maxSteps := 1000000) (disch := first | omega | assumption | (simp only [rL, Nat.reduceAdd]; done) | (simp only [rL, Nat.reduceAdd]; omega)) only [↓rD, rU, ev, ofConst, ofCell, ↓reduceIte, Nat.reduceEqDiff, Nat.reduceAdd, Nat.reduceSub, Nat.reduceMul, Nat.reduceLeDiff, Nat.reduceLT, Int.reduceNeg, Int.reduceToNat, Int.reduceAdd, Int.reduceSub, Int.reduceMul, Int.reduceLT, Int.reduceLE, Int.reduceEq, rX, List.drop_succ_cons, ↓rF, rG, ne_eq, not_true_eq_false, not_false_eq_true, Int.reduceNe, List.getElem?_cons_zero, List.getElem?_cons_succ, ↓rK, rM, c45, strV]
        exact ⟨Hp.sub_refl, by simp [h2, h45]⟩
    · rintro f s2 ⟨h12, f0, f2, f22⟩
      have hg := h12 _ _ hg
      have h01 := Hp.sub_trans h01 h12
      cases hq : (nxt digitR l || (decide (l.head? = some 45) && nxt digitR (l.drop 1))) with
      | true =>
        rw [hq] at f22
        have htok : tokP l = numP l := by simp only [tokP, h1, hq, if_true, Bool.false_eq_true, if_false]
        have HD : nxt digitR (l.drop (sg l)) = true := by
          by_cases h45 : l.head? = some 45
          · simp only [sg, h45, if_true]
            have : nxt digitR l = false := by
              cases l with
              | nil => rfl
              | cons b r => simp at h45; subst h45; rfl
            simpa [this, h45] using hq
          · simp only [sg, h45, if_false, List.drop_zero]
            simpa [h45] using hq
        simp (dsimp := false) (implicitDefEqProofs := false) (maxSteps := 1000000) (disch := first | omega | assumption | (simp only [rL, Nat.reduceAdd]; done) | (simp only [rL, Nat.reduceAdd]; omega)) only [↓rD, rU, ev, ofConst, ofCell, ↓reduceIte, Nat.reduceEqDiff, Nat.reduceAdd, Nat.reduceSub, Nat.reduceMul, Nat.reduceLeDiff, Nat.reduceLT, Int.reduceNeg, Int.reduceToNat, Int.reduceAdd, Int.reduceSub, Int.reduceMul, Int.reduceLT, Int.reduceLE, Int.reduceEq, rX, List.drop_succ_cons, ↓rF, rG, ne_eq, not_true_eq_false, not_false_eq_true, Int.reduceNe, List.getElem?_cons_zero, List.getElem?_cons_succ, ↓rK, rM, f0, f2, f22]
        refine call_intro (number_spec l hne hl HD _ (hT.mono h01)) ?_
        rintro _ s3 ⟨hs3, rfl⟩
        have hg3 := hs3 _ _ hg
        cases hn : numP l with
        | ok x =>
          obtain ⟨t, n⟩ := x
          simp (dsimp := false) (implicitDefEqProofs := false) (maxSteps := 1000000) (disch := first | omega | assumption | (simp only [rL, Nat.reduceAdd]; done) | (simp only [rL, Nat.reduceAdd]; omega)) only [↓rD, rU, ev, ofConst, ofCell, ↓reduceIte, Nat.reduceEqDiff, Nat.reduceAdd, Nat.reduceSub, Nat.reduceMul, Nat.reduceLeDiff, Nat.reduceLT, Int.reduceNeg, Int.reduceToNat, Int.reduceAdd, Int.reduceSub, Int.reduceMul, Int.reduceLT, Int.reduceLE, Int.reduceEq, rX, List.drop_succ_cons, ↓rF, rG, ne_eq, not_true_eq_false, not_false_eq_true, Int.reduceNe, List.getElem?_cons_zero, List.getElem?_cons_succ, ↓rK, rM, f0, f2, tokR, rTok, Hp.stA_of hg3, z4]
          exact ⟨_, Hp.sub_refl, Hp.sub_new (Hp.sub_trans h01 hs3) n2, by rw [htok, hn]⟩
        | error e =>
          simp (dsimp := false) (implicitDefEqProofs := false) (maxSteps := 1000000) (disch := first | omega | assumption | (simp only [rL, Nat.reduceAdd]; done) | (simp only [rL, Nat.reduceAdd]; omega)) only [↓rD, rU, ev, ofConst, ofCell, ↓reduceIte, Nat.reduceEqDiff, Nat.reduceAdd, Nat.reduceSub, Nat.reduceMul, Nat.reduceLeDiff, Nat.reduceLT, Int.reduceNeg, Int.reduceToNat, Int.reduceAdd, Int.reduceSub, Int.reduceMul, Int.reduceLT, Int.reduceLE, Int.reduceEq, rX, List.drop_succ_cons, ↓rF, rG, ne_eq, not_true_eq_false, not_false_eq_true, Int.reduceNe, List.getElem?_cons_zero, List.getElem?_cons_succ, ↓rK, rM, f0, f2, tokR, rTok, Hp.stA_of hg3, z4]
          exact ⟨_, Hp.sub_refl, Hp.sub_new (Hp.sub_trans h01 hs3) n2, by rw [htok, hn]; rfl⟩
      | false =>
        rw [hq] at f22
        have htok : tokP l = (match signs.find? (fun p => isPre p l) with | some p => .ok (⟨3, p, 0⟩, p.length) | none => .error 2) := by
          simp only [tokP, h1, hq, Bool.false_eq_true, if_false]
          all_goals (cases signs.find? (fun p => isPre p l) <;> rfl)
        simp (dsimp := false) (implicitDefEqProofs := false) (maxSteps := 1000000) (disch := first | omega | assumption | (simp only [rL, Nat.reduceAdd]; done) | (simp only [rL, Nat.reduceAdd]; omega)) only [↓rD, rU, ev, ofConst, ofCell, ↓reduceIte, Nat.reduceEqDiff, Nat.reduceAdd, Nat.reduceSub, Nat.reduceMul, Nat.reduceLeDiff, Nat.reduceLT, Int.reduceNeg, Int.reduceToNat, Int.reduceAdd, Int.reduceSub, Int.reduceMul, Int.reduceLT, Int.reduceLE, Int.reduceEq, rX, List.drop_succ_cons, ↓rF, rG, ne_eq, not_true_eq_false, not_false_eq_true, Int.reduceNe, List.getElem?_cons_zero, List.getElem?_cons_succ, ↓rK, rM, f0, f2, f22, rep9, putAt_z1, putAt_sc, signs_agg]
        refine loop_intro (fun g s3 => ∃ j : Nat, j ≤ 9 ∧ s3 = s2 ∧ g 0 = strV l ∧ g 2 = .ptr l2 0 ∧ g 38 = .agg (signs.map strV) ∧ g 39 = .v (.int .i64 j) ∧ ∀ i, i < j → isPre (signs.getD i []) l = false)
          (fun g _ => match g 39 with | .v (.int _ n) => (9 - n).toNat | _ => 0) ⟨0, by omega, rfl, ?_⟩ ?_
        · simp (dsimp := false) (implicitDefEqProofs := false) (maxSteps := 1000000) (disch := first | omega | assumption | (simp only [rL, Nat.reduceAdd]; done) | (simp only [rL, Nat.reduceAdd]; omega)) only [↓rD, rU, ev, ofConst, ofCell, ↓reduceIte, Nat.reduceEqDiff, Nat.reduceAdd, Nat.reduceSub, Nat.reduceMul, Nat.reduceLeDiff, Nat.reduceLT, Int.reduceNeg, Int.reduceToNat, Int.reduceAdd, Int.reduceSub, Int.reduceMul, Int.reduceLT, Int.reduceLE, Int.reduceEq, rX, List.drop_succ_cons, ↓rF, rG, ne_eq, not_true_eq_false, not_false_eq_true, Int.reduceNe, List.getElem?_cons_zero, List.getElem?_cons_succ, ↓rK, rM, f0, f2]
          exact ⟨rfl, fun i hi => by omega⟩
        · rintro g _ ⟨j, hj, rfl, g0, g2, g38, g39, hall⟩
          by_cases hlt : (j : Int) < 9
          · simp (dsimp := false) (implicitDefEqProofs := false) (maxSteps := 1000000) (disch := first | omega | assumption | (simp only [rL, Nat.reduceAdd]; done) | (simp only [rL, Nat.reduceAdd]; omega)) only [↓rD, rU, ev, ofConst, ofCell, ↓reduceIte, Nat.reduceEqDiff, Nat.reduceAdd, Nat.reduceSub, Nat.reduceMul, Nat.reduceLeDiff, Nat.reduceLT, Int.reduceNeg, Int.reduceToNat, Int.reduceAdd, Int.reduceSub, Int.reduceMul, Int.reduceLT, Int.reduceLE, Int.reduceEq, rX, List.drop_succ_cons, ↓rF, rG, ne_eq, not_true_eq_false, not_false_eq_true, Int.reduceNe, List.getElem?_cons_zero, List.getElem?_cons_succ, ↓rK, rM, g0, g2, g38, g39, hlt, signs_at]
            refine call_intro (hasPrefix_spec l (signs.getD j []) _) ?_
            rintro _ s3 ⟨rfl, rfl⟩
            have hip : (decide ((signs.getD j []).length ≤ l.length) && pre (signs.getD j []) l) = isPre (signs.getD j []) l := rfl
            rw [hip]
            cases hp : isPre (signs.getD j []) l with
            | true =>
              have hf := signs_loop (by omega) rfl hall hp
              have hstr : strV (signs.getD j []) = .v (.string ⟨(signs.getD j []).toArray⟩) := rfl
              simp (dsimp := false) (implicitDefEqProofs := false) (maxSteps := 1000000) (disch := first | omega | assumption | (simp only [rL, Nat.reduceAdd]; done) | (simp only [rL, Nat.reduceAdd]; omega)) only [↓rD, rU, ev, ofConst, ofCell, ↓reduceIte, Nat.reduceEqDiff, Nat.reduceAdd, Nat.reduceSub, Nat.reduceMul, Nat.reduceLeDiff, Nat.reduceLT, Int.reduceNeg, Int.reduceToNat, Int.reduceAdd, Int.reduceSub, Int.reduceMul, Int.reduceLT, Int.reduceLE, Int.reduceEq, rX, List.drop_succ_cons, ↓rF, rG, ne_eq, not_true_eq_false, not_false_eq_true, Int.reduceNe, List.getElem?_cons_zero, List.getElem?_cons_succ, ↓rK, rM, g0, g2, g38, g39, rTok, Hp.stA_of hg, z4]
              rw [hstr]
              simp (dsimp := false) (implicitDefEqProofs := false) (maxSteps := 1000000) (disch := first | omega | assumption | (simp only [rL, Nat.reduceAdd]; done) | (simp only [rL, Nat.reduceAdd]; omega)) only [↓rD, rU, ev, ofConst, ofCell, ↓reduceIte, Nat.reduceEqDiff, Nat.reduceAdd, Nat.reduceSub, Nat.reduceMul, Nat.reduceLeDiff, Nat.reduceLT, Int.reduceNeg, Int.reduceToNat, Int.reduceAdd, Int.reduceSub, Int.reduceMul, Int.reduceLT, Int.reduceLE, Int.reduceEq, rX, List.drop_succ_cons, ↓rF, rG, ne_eq, not_true_eq_false, not_false_eq_true, Int.reduceNe, List.getElem?_cons_zero, List.getElem?_cons_succ, ↓rK, rM, g0, g2, g38, g39, rTok, Hp.stA_of hg, z4]
              exact ⟨_, Hp.sub_refl, Hp.sub_new h01 n2, by rw [htok, hf]; rfl⟩
            | false =>
              simp (dsimp := false) (implicitDefEqProofs := false) (maxSteps := 1000000) (disch := first | omega | assumption | (simp only [rL, Nat.reduceAdd]; done) | (simp only [rL, Nat.reduceAdd]; omega)) only [↓rD, rU, ev, ofConst, ofCell, ↓reduceIte, Nat.reduceEqDiff, Nat.reduceAdd, Nat.reduceSub, Nat.reduceMul, Nat.reduceLeDiff, Nat.reduceLT, Int.reduceNeg, Int.reduceToNat, Int.reduceAdd, Int.reduceSub, Int.reduceMul, Int.reduceLT, Int.reduceLE, Int.reduceEq, rX, List.drop_succ_cons, ↓rF, rG, ne_eq, not_true_eq_false, not_false_eq_true, Int.reduceNe, List.getElem?_cons_zero, List.getElem?_cons_succ, ↓rK, rM, g0, g2, g38, g39]
              refine ⟨⟨j + 1, by omega, by simp, fun i hi => ?_⟩, by omega⟩
              rcases Nat.lt_or_ge i j with h | h
              · exact hall i h
              · obtain rfl : i = j := by omega
                exact hp
          · obtain rfl : j = 9 := by omega
            have hf := signs_none hall
            simp (dsimp := false) (implicitDefEqProofs := false) (maxSteps := 1000000) (disch := first | omega | assumption | (simp only [rL, Nat.reduceAdd]; done) | (simp only [rL, Nat.reduceAdd]; omega)) only [↓rD, rU, ev, ofConst, ofCell, ↓reduceIte, Nat.reduceEqDiff, Nat.reduceAdd, Nat.reduceSub, Nat.reduceMul, Nat.reduceLeDiff, Nat.reduceLT, Int.reduceNeg, Int.reduceToNat, Int.reduceAdd, Int.reduceSub, Int.reduceMul, Int.reduceLT, Int.reduceLE, Int.reduceEq, rX, List.drop_succ_cons, ↓rF, rG, ne_eq, not_true_eq_false, not_false_eq_true, Int.reduceNe, List.getElem?_cons_zero, List.getElem?_cons_succ, ↓rK, rM, g0, g2, g38, g39, hlt, rTok, Hp.stA_of hg, z4]
            exact ⟨_, Hp.sub_refl, Hp.sub_new h01 n2, by rw [htok, hf]; rfl⟩
end Go.Proofs.YtpbicmjkjihhnaaDoor
/-
  lex.Lex.
-/
set_option maxRecDepth 100000
namespace Go.Proofs.YtpbicmjkjihhnaaDoor
open Go Go.Av

/-! ### the lexer without fuel -/
theorem skip_idem : ∀ (c : Bool) (l : List UInt8), skip false (skip c l) = skip c l
  | true, [] => rfl
  | false, [] => rfl
  | true, b :: r => by
    simp only [skip]; split
    · exact skip_idem false r
    · exact skip_idem true r
  | false, b :: r => by
    simp only [skip]; split
    · exact skip_idem false r
    · rename_i h1
      split
      · exact skip_idem true r
      · rename_i h2
        simp [skip, h1, h2]
theorem lexP_fuel : ∀ (n f g N : Nat) (l : List UInt8), l.length ≤ n → l.length < f → l.length < g → lexP f N l = lexP g N l
  | n, 0, _, _, _, _, h, _ => by omega
  | n, _ + 1, 0, _, _, _, _, h => by omega
  | n, f + 1, g + 1, N, l, hn, hf, hg => by
    simp only [lexP]
    split
    · rfl
    · rename_i hne
      cases ht : tokP (skip false l) with
      | error e => rfl
      | ok x =>
        obtain ⟨t, k⟩ := x
        have h1 := tokP_n hne ht
        have h2 := skip_le false l
        have h3 : ((skip false l).drop k).length < l.length := by rw [List.length_drop]; omega
        cases n with
        | zero => omega
        | succ n =>
          have := lexP_fuel n f g N ((skip false l).drop k) (by omega) (by omega) (by omega)
          simp only [this]
def lexQ (N : Nat) (l : List UInt8) : Except Nat (List (Tok × Nat)) := lexP (l.length + 1) N l
theorem lexQ_eq (N : Nat) (l : List UInt8) : lexQ N l = if skip false l = [] then .ok [] else
    match tokP (skip false l) with
    | .error e => .error e
    | .ok (t, n) => match lexQ N ((skip false l).drop n) with
      | .error e => .error e
      | .ok ts => .ok ((t, N - (skip false l).length) :: ts) := by
  unfold lexQ
  rw [lexP]
  split
  · rfl
  · rename_i hne
    cases ht : tokP (skip false l) with
    | error e => rfl
    | ok x =>
      obtain ⟨t, k⟩ := x
      have h1 := tokP_n hne ht
      have h2 := skip_le false l
      have h3 : ((skip false l).drop k).length < l.length := by rw [List.length_drop]; omega
      have := lexP_fuel l.length l.length (((skip false l).drop k).length + 1) N ((skip false l).drop k) (by omega) (by omega) (by omega)
      simp only [this]
      all_goals (cases lexP (((skip false l).drop k).length + 1) N ((skip false l).drop k) <;> rfl)
theorem lexQ_skip (N : Nat) (l : List UInt8) : lexQ N (skip false l) = lexQ N l := by
  rw [lexQ_eq N l, lexQ_eq N (skip false l), skip_idem]

def appE (acc : List (Tok × Nat)) : Except Nat (List (Tok × Nat)) → Except Nat (List (Tok × Nat))
  | .error e => .error e
  | .ok ts => .ok (acc ++ ts)

def TL (ts : List (Tok × Nat)) : List AV := ts.map fun p => p.1.V p.2
theorem TL_len {ts : List (Tok × Nat)} : allLen 4 (TL ts) := by
  rw [TL, allLen_map (k := 4) (g := fun p : Tok × Nat => p.1.V p.2) (fun x => rfl) ts]; trivial

/-- what lex.Lex hands back -/
def LexPost (s s' : Hp) (r : AV) : Except Nat (List (Tok × Nat)) → Prop
  | .ok ts => ∃ o, Owned s s' 4 (TL ts) o ∧ r = .tup [.sl (TL ts) o, .v (.int .i64 0)]
  | .error e => s.sub s' ∧ r = .tup [.sl [] .nil, .v (.int .i64 e)]

theorem tokR_ok {t : Tok} {n : Nat} : tokR (.ok (t, n)) = .tup [t.V 0, .v (.int .i64 n), .v (.int .i64 0)] := rfl
theorem tokR_err {e : Nat} : tokR (.error e) = .tup [zTok.V 0, .v (.int .i64 0), .v (.int .i64 e)] := rfl
theorem numV_err {neg : Bool} {D e : Nat} (h : numV neg D = .error e) : e = 7 := by
  unfold numV at h
  split at h <;> split at h <;> simp only [Except.error.injEq, reduceCtorEq] at h <;> omega
theorem tokP_err {l : List UInt8} {e : Nat} (h : tokP l = .error e) : e = 2 ∨ e = 7 := by
  unfold tokP at h
  split at h
  · cases h
  · split at h
    · unfold numP at h
      split at h
      · simp only [Except.error.injEq] at h; exact .inl h.symm
      · split at h
        · cases h
        · rename_i e' hv
          simp only [Except.error.injEq] at h
          exact .inr (by rw [← h]; exact numV_err hv)
    · split at h
      · cases h
      · simp only [Except.error.injEq] at h; exact .inl h.symm

theorem Lex_spec (l : List UInt8) (s : Hp) (hT : Tabs s) :
    AC Tryd.prog 7 [strV l] s fun r s' => LexPost s s' r (lexT l) := by
  refine AC_run hm prep7 (by simp) ?_
  by_cases h1000 : (1000 : Int) < (l.length : Int)
  · simp (dsimp := false) (implicitDefEqProofs := false) (maxSteps := 1000000) (disch := first | omega | assumption | (simp only [rL, Nat.reduceAdd]; done) | (simp only [rL, Nat.reduceAdd]; omega)) only [↓rD, rU, ev, ofConst, ofCell, ↓reduceIte, Nat.reduceEqDiff, Nat.reduceAdd, Nat.reduceSub, Nat.reduceMul, Nat.reduceLeDiff, Nat.reduceLT, Int.reduceNeg, Int.reduceToNat, Int.reduceAdd, Int.reduceSub, Int.reduceMul, Int.reduceLT, Int.reduceLE, Int.reduceEq, rX, List.drop_succ_cons, ↓rF, rG, ne_eq, not_true_eq_false, not_false_eq_true, Int.reduceNe, List.getElem?_cons_zero, List.getElem?_cons_succ, ↓rK, rM, strV, h1000]
    have e : lexT l = .error 10 := by simp only [lexT]; rw [if_pos (by omega)]
    exact ⟨_, Hp.sub_refl, by rw [e]; exact ⟨Hp.sub_refl, rfl⟩⟩
  have hl : l.length ≤ 1000 := by omega
  have e : lexT l = lexQ l.length l := by simp only [lexT, lexQ]; rw [if_neg (by omega)]
  rw [e]
  simp (dsimp := false) (implicitDefEqProofs := false) (maxSteps := 1000000) (disch := first | omega | assumption | (simp only [rL, Nat.reduceAdd]; done) | (simp only [rL, Nat.reduceAdd]; omega)) only [↓rD, rU, ev, ofConst, ofCell, ↓reduceIte, Nat.reduceEqDiff, Nat.reduceAdd, Nat.reduceSub, Nat.reduceMul, Nat.reduceLeDiff, Nat.reduceLT, Int.reduceNeg, Int.reduceToNat, Int.reduceAdd, Int.reduceSub, Int.reduceMul, Int.reduceLT, Int.reduceLE, Int.reduceEq, rX, List.drop_succ_cons, ↓rF, rG, ne_eq, not_true_eq_false, not_false_eq_true, Int.reduceNe, List.getElem?_cons_zero, List.getElem?_cons_succ, ↓rK, rM, strV, h1000]
  refine call_intro (blanks_spec l _ (by omega)) ?_
  rintro _ s1 ⟨hs1, rfl⟩
  simp (dsimp := false) (implicitDefEqProofs := false) (maxSteps := 1000000) (disch := first | omega | assumption | (simp only [rL, Nat.reduceAdd]; done) | (simp only [rL, Nat.reduceAdd]; omega)) only [↓rD, rU, ev, ofConst, ofCell, ↓reduceIte, Nat.reduceEqDiff, Nat.reduceAdd, Nat.reduceSub, Nat.reduceMul, Nat.reduceLeDiff, Nat.reduceLT, Int.reduceNeg, Int.reduceToNat, Int.reduceAdd, Int.reduceSub, Int.reduceMul, Int.reduceLT, Int.reduceLE, Int.reduceEq, rX, List.drop_succ_cons, ↓rF, rG, ne_eq, not_true_eq_false, not_false_eq_true, Int.reduceNe, List.getElem?_cons_zero, List.getElem?_cons_succ, ↓rK, rM, strV]
  refine loop_intro (fun f s' => ∃ (rest : List UInt8) (acc : List (Tok × Nat)) (o : Own), rest.length ≤ l.length ∧ l.drop (l.length - rest.length) = rest ∧ skip false rest = rest ∧ appE acc (lexQ l.length rest) = lexQ l.length l ∧ acc.length + rest.length ≤ l.length ∧
      Owned s s' 4 (TL acc) o ∧ f 0 = strV l ∧ f 4 = .sl (TL acc) o ∧ f 5 = .v (.int .i64 ((l.length - rest.length : Nat) : Int)))
    (fun f _ => match f 5 with | .v (.int _ n) => l.length - n.toNat | _ => 0) ⟨skip false l, [], .nil, skip_le _ _, ?_, skip_idem _ _, ?_, ?_, Owned.nil hs1, ?_⟩ ?_
  · obtain ⟨k, hk, hk2⟩ := skip_sfx false l
    rw [hk, List.length_drop]
    congr 1; omega
  · rw [lexQ_skip]
    cases lexQ l.length l <;> rfl
  · have := skip_le false l; simpa using this
  · simp (dsimp := false) (implicitDefEqProofs := false) (maxSteps := 1000000) (disch := first | omega | assumption | (simp only [rL, Nat.reduceAdd]; done) | (simp only [rL, Nat.reduceAdd]; omega)) only [↓rD, rU, ev, ofConst, ofCell, ↓reduceIte, Nat.reduceEqDiff, Nat.reduceAdd, Nat.reduceSub, Nat.reduceMul, Nat.reduceLeDiff, Nat.reduceLT, Int.reduceNeg, Int.reduceToNat, Int.reduceAdd, Int.reduceSub, Int.reduceMul, Int.reduceLT, Int.reduceLE, Int.reduceEq, rX, List.drop_succ_cons, ↓rF, rG, ne_eq, not_true_eq_false, not_false_eq_true, Int.reduceNe, List.getElem?_cons_zero, List.getElem?_cons_succ, ↓rK, rM]
    rfl
  · rintro f s' ⟨rest, acc, o, hle, hdrop, hsk, happ, hacc, hown, f0, f4, f5⟩
    have f0' : f 0 = .v (.string ⟨l.toArray⟩) := f0
    by_cases hlt : ((l.length - rest.length : Nat) : Int) < (l.length : Int)
    · have hpos : 0 < rest.length := by omega
      have hne : rest ≠ [] := List.length_pos_iff.1 hpos
      simp (dsimp := false) (implicitDefEqProofs := false) (maxSteps := 1000000) (disch := first | omega | assumption | (simp only [rL, Nat.reduceAdd]; done) | (simp only [rL, Nat.reduceAdd]; omega)) only [↓rD, rU, ev, ofConst, ofCell, ↓reduceIte, Nat.reduceEqDiff, Nat.reduceAdd, Nat.reduceSub, Nat.reduceMul, Nat.reduceLeDiff, Nat.reduceLT, Int.reduceNeg, Int.reduceToNat, Int.reduceAdd, Int.reduceSub, Int.reduceMul, Int.reduceLT, Int.reduceLE, Int.reduceEq, rX, List.drop_succ_cons, ↓rF, rG, ne_eq, not_true_eq_false, not_false_eq_true, Int.reduceNe, List.getElem?_cons_zero, List.getElem?_cons_succ, ↓rK, rM, f0', f4, f5, hlt, hdrop]
      refine call_intro (token_spec rest hne (by omega) _ (hT.mono hown.sub)) ?_
      rintro _ s2 ⟨hs2, rfl⟩
      have hq := lexQ_eq l.length rest
      rw [hsk, if_neg hne] at hq
      cases ht : tokP rest with
      | error e =>
        rw [ht] at hq
        have he := tokP_err ht
        simp (dsimp := false) (implicitDefEqProofs := false) (maxSteps := 1000000) (disch := first | omega | assumption | (simp only [rL, Nat.reduceAdd]; done) | (simp only [rL, Nat.reduceAdd]; omega)) only [↓rD, rU, ev, ofConst, ofCell, ↓reduceIte, Nat.reduceEqDiff, Nat.reduceAdd, Nat.reduceSub, Nat.reduceMul, Nat.reduceLeDiff, Nat.reduceLT, Int.reduceNeg, Int.reduceToNat, Int.reduceAdd, Int.reduceSub, Int.reduceMul, Int.reduceLT, Int.reduceLE, Int.reduceEq, rX, List.drop_succ_cons, ↓rF, rG, ne_eq, not_true_eq_false, not_false_eq_true, Int.reduceNe, List.getElem?_cons_zero, List.getElem?_cons_succ, ↓rK, rM, f0', f4, f5, tokR_err]
        refine newK_intro fun l6 n6 => ?_
        have hne0 : ¬ ((e : Nat) : Int) = 0 := by omega
        simp (dsimp := false) (implicitDefEqProofs := false) (maxSteps := 1000000) (disch := first | omega | assumption | (simp only [rL, Nat.reduceAdd]; done) | (simp only [rL, Nat.reduceAdd]; omega)) only [↓rD, rU, ev, ofConst, ofCell, ↓reduceIte, Nat.reduceEqDiff, Nat.reduceAdd, Nat.reduceSub, Nat.reduceMul, Nat.reduceLeDiff, Nat.reduceLT, Int.reduceNeg, Int.reduceToNat, Int.reduceAdd, Int.reduceSub, Int.reduceMul, Int.reduceLT, Int.reduceLE, Int.reduceEq, rX, List.drop_succ_cons, ↓rF, rG, ne_eq, not_true_eq_false, not_false_eq_true, Int.reduceNe, List.getElem?_cons_zero, List.getElem?_cons_succ, ↓rK, rM, rTok, hne0]
        refine ⟨_, Hp.sub_refl, ?_⟩
        rw [← happ, hq]
        exact ⟨Hp.sub_trans hown.sub (Hp.sub_trans hs2 (Hp.sub_new Hp.sub_refl n6)), rfl⟩
      | ok x =>
        obtain ⟨t, n⟩ := x
        rw [ht] at hq
        simp only at hq
        have hn := tokP_n hne ht
        simp (dsimp := false) (implicitDefEqProofs := false) (maxSteps := 1000000) (disch := first | omega | assumption | (simp only [rL, Nat.reduceAdd]; done) | (simp only [rL, Nat.reduceAdd]; omega)) only [↓rD, rU, ev, ofConst, ofCell, ↓reduceIte, Nat.reduceEqDiff, Nat.reduceAdd, Nat.reduceSub, Nat.reduceMul, Nat.reduceLeDiff, Nat.reduceLT, Int.reduceNeg, Int.reduceToNat, Int.reduceAdd, Int.reduceSub, Int.reduceMul, Int.reduceLT, Int.reduceLE, Int.reduceEq, rX, List.drop_succ_cons, ↓rF, rG, ne_eq, not_true_eq_false, not_false_eq_true, Int.reduceNe, List.getElem?_cons_zero, List.getElem?_cons_succ, ↓rK, rM, f0', f4, f5, tokR_ok]
        refine newK_intro fun l6 n6 => ?_
        simp (dsimp := false) (implicitDefEqProofs := false) (maxSteps := 1000000) (disch := first | omega | assumption | (simp only [rL, Nat.reduceAdd]; done) | (simp only [rL, Nat.reduceAdd]; omega)) only [↓rD, rU, ev, ofConst, ofCell, ↓reduceIte, Nat.reduceEqDiff, Nat.reduceAdd, Nat.reduceSub, Nat.reduceMul, Nat.reduceLeDiff, Nat.reduceLT, Int.reduceNeg, Int.reduceToNat, Int.reduceAdd, Int.reduceSub, Int.reduceMul, Int.reduceLT, Int.reduceLE, Int.reduceEq, rX, List.drop_succ_cons, ↓rF, rG, ne_eq, not_true_eq_false, not_false_eq_true, Int.reduceNe, List.getElem?_cons_zero, List.getElem?_cons_succ, ↓rK, rM, rTok, f0', f4, f5]
        have hown2 : Owned s (s2.set l6 (.cells (t.C (l.length - rest.length)))) 4 (TL acc) o := hown.mono (Hp.sub_trans hs2 (Hp.sub_new Hp.sub_refl n6))
        refine bsl_own Hp.sub_refl ?_ fun o1 s3 h3 => ?_
        · intro e he; simp at he; subst he; rfl
        simp (dsimp := false) (implicitDefEqProofs := false) (maxSteps := 1000000) (disch := first | omega | assumption | (simp only [rL, Nat.reduceAdd]; done) | (simp only [rL, Nat.reduceAdd]; omega)) only [↓rD, rU, ev, ofConst, ofCell, ↓reduceIte, Nat.reduceEqDiff, Nat.reduceAdd, Nat.reduceSub, Nat.reduceMul, Nat.reduceLeDiff, Nat.reduceLT, Int.reduceNeg, Int.reduceToNat, Int.reduceAdd, Int.reduceSub, Int.reduceMul, Int.reduceLT, Int.reduceLE, Int.reduceEq, rX, List.drop_succ_cons, ↓rF, rG, ne_eq, not_true_eq_false, not_false_eq_true, Int.reduceNe, List.getElem?_cons_zero, List.getElem?_cons_succ, ↓rK, rM, rTok]
        have hlenT : (TL acc).length = acc.length := by simp [TL]
        refine app_own (hown2.mono h3.sub) TL_len ?_ (by simp [hlenT]; omega) (by simp [hlenT]; omega) fun o4 s4 h4 => ?_
        · intro e he; simp at he; subst he; rfl
        have eacc : TL acc ++ [t.V (l.length - rest.length)] = TL (acc ++ [(t, l.length - rest.length)]) := by simp [TL]
        rw [eacc] at h4 ⊢
        have e5 : ((l.length - rest.length : Nat) : Int) + (n : Int) = ((l.length - rest.length + n : Nat) : Int) := by omega
        have hdrop2 : l.drop (l.length - rest.length + n) = rest.drop n := by rw [← List.drop_drop, hdrop]
        simp (dsimp := false) (implicitDefEqProofs := false) (maxSteps := 1000000) (disch := first | omega | assumption | (simp only [rL, Nat.reduceAdd]; done) | (simp only [rL, Nat.reduceAdd]; omega)) only [↓rD, rU, ev, ofConst, ofCell, ↓reduceIte, Nat.reduceEqDiff, Nat.reduceAdd, Nat.reduceSub, Nat.reduceMul, Nat.reduceLeDiff, Nat.reduceLT, Int.reduceNeg, Int.reduceToNat, Int.reduceAdd, Int.reduceSub, Int.reduceMul, Int.reduceLT, Int.reduceLE, Int.reduceEq, rX, List.drop_succ_cons, ↓rF, rG, ne_eq, not_true_eq_false, not_false_eq_true, Int.reduceNe, List.getElem?_cons_zero, List.getElem?_cons_succ, ↓rK, rM, f0', f4, f5, e5, hdrop2]
        refine call_intro (blanks_spec (rest.drop n) _ (by rw [List.length_drop]; omega)) ?_
        rintro _ s5 ⟨hs5, rfl⟩
        simp (dsimp := false) (implicitDefEqProofs := false) (maxSteps := 1000000) (disch := first | omega | assumption | (simp only [rL, Nat.reduceAdd]; done) | (simp only [rL, Nat.reduceAdd]; omega)) only [↓rD, rU, ev, ofConst, ofCell, ↓reduceIte, Nat.reduceEqDiff, Nat.reduceAdd, Nat.reduceSub, Nat.reduceMul, Nat.reduceLeDiff, Nat.reduceLT, Int.reduceNeg, Int.reduceToNat, Int.reduceAdd, Int.reduceSub, Int.reduceMul, Int.reduceLT, Int.reduceLE, Int.reduceEq, rX, List.drop_succ_cons, ↓rF, rG, ne_eq, not_true_eq_false, not_false_eq_true, Int.reduceNe, List.getElem?_cons_zero, List.getElem?_cons_succ, ↓rK, rM, f0', f4, f5]
        have hskl := skip_le false (rest.drop n)
        rw [List.length_drop] at hskl
        refine ⟨⟨skip false (rest.drop n), acc ++ [(t, l.length - rest.length)], o4, by omega, ?_, skip_idem _ _, ?_, ?_, h4.mono hs5, rfl, rfl, ?_⟩, ?_⟩
        · obtain ⟨k, hk, hk2⟩ := skip_sfx false (rest.drop n)
          have hkl : (skip false (rest.drop n)).length = rest.length - n - k := by rw [hk, List.length_drop, List.length_drop]
          rw [List.length_drop] at hk2
          rw [hkl]
          conv => rhs; rw [hk, ← hdrop2, List.drop_drop]
          congr 1; omega
        · rw [lexQ_skip, ← happ, hq]
          cases lexQ l.length (rest.drop n) with
          | error e => rfl
          | ok ts => simp [appE]
        · simp; omega
        · rw [List.length_drop]; simp; omega
        · rw [List.length_drop]; omega
    · have hr0 : rest = [] := List.eq_nil_of_length_eq_zero (by omega)
      simp (dsimp := false) (implicitDefEqProofs := false) (maxSteps := 1000000) (disch := first | omega | assumption | (simp only [rL, Nat.reduceAdd]; done) | (simp only [rL, Nat.reduceAdd]; omega)) only [↓rD, rU, ev, ofConst, ofCell, ↓reduceIte, Nat.reduceEqDiff, Nat.reduceAdd, Nat.reduceSub, Nat.reduceMul, Nat.reduceLeDiff, Nat.reduceLT, Int.reduceNeg, Int.reduceToNat, Int.reduceAdd, Int.reduceSub, Int.reduceMul, Int.reduceLT, Int.reduceLE, Int.reduceEq, rX, List.drop_succ_cons, ↓rF, rG, ne_eq, not_true_eq_false, not_false_eq_true, Int.reduceNe, List.getElem?_cons_zero, List.getElem?_cons_succ, ↓rK, rM, f0', f4, f5, hlt]
      subst hr0
      refine ⟨_, Hp.sub_refl, ?_⟩
      rw [← happ]
      exact ⟨o, by simpa using hown, by simp⟩
end Go.Proofs.YtpbicmjkjihhnaaDoor
/-
  strings.Builder's methods; lex.Text.
-/
set_option maxRecDepth 100000
namespace Go.Proofs.YtpbicmjkjihhnaaDoor
open Go Go.Av

/-- a builder at l that the call itself has made, over the objects s0: what it holds -/
def BD (l : Nat) (bs : List UInt8) (s0 s : Hp) : Prop :=
  s0.sub s ∧ s0 l = none ∧
    ((bs = [] ∧ (s l = some (.tc 42 [.v (.pointer none), .sl [] .nil]) ∨ s l = some (.tc 42 [.ptr l 0, .sl [] .nil]))) ∨
     (0 < bs.length ∧ ∃ g cap cs, g ≠ l ∧ s0 g = none ∧ s l = some (.tc 42 [.ptr l 0, .mb g bs.length cap 1]) ∧ s g = some (.tc 5 cs) ∧ cs.length = cap ∧ cs.take bs.length = bs.map byteAV ∧ bs.length ≤ cap ∧ cap ≤ maxLen))
theorem BD.new {l l5 : Nat} {bs : List UInt8} {s0 s : Hp} {ob : Ob} (h : BD l bs s0 s) (hl : s l5 = none) : BD l bs (s0.set l5 ob) (s.set l5 ob) := by
  obtain ⟨h1, h2, h3⟩ := h
  have hl5 : l ≠ l5 := by
    rintro rfl
    rcases h3 with ⟨_, h | h⟩ | ⟨_, g, cap, cs, _, _, h, _⟩ <;> rw [hl] at h <;> cases h
  refine ⟨Hp.sub_set h1, by rw [Hp.set_ne _ _ hl5]; exact h2, ?_⟩
  rcases h3 with ⟨hb, h⟩ | ⟨hb, g, cap, cs, hg, g1, g2, g3, g4⟩
  · exact .inl ⟨hb, by rw [Hp.set_ne _ _ hl5]; exact h⟩
  · have hg5 : g ≠ l5 := by rintro rfl; rw [hl] at g3; cases g3
    exact .inr ⟨hb, g, cap, cs, hg, by rw [Hp.set_ne _ _ hg5]; exact g1, by rw [Hp.set_ne _ _ hl5]; exact g2, by rw [Hp.set_ne _ _ hg5]; exact g3, g4⟩
theorem BD.base {l : Nat} {bs : List UInt8} {s1 s0 s : Hp} (h : BD l bs s0 s) (hs : s1.sub s0) : BD l bs s1 s := by
  obtain ⟨h1, h2, h3⟩ := h
  refine ⟨Hp.sub_trans hs h1, Hp.sub_none hs h2, ?_⟩
  rcases h3 with h | ⟨hb, g, cap, cs, hg, g1, g2⟩
  · exact .inl h
  · exact .inr ⟨hb, g, cap, cs, hg, Hp.sub_none hs g1, g2⟩

/-- a builder whose address is laid -/
def BU (l : Nat) (bs : List UInt8) (s0 s : Hp) : Prop :=
  s0.sub s ∧ s0 l = none ∧
    ((bs = [] ∧ s l = some (.tc 42 [.ptr l 0, .sl [] .nil])) ∨
     (0 < bs.length ∧ ∃ g cap cs, g ≠ l ∧ s0 g = none ∧ s l = some (.tc 42 [.ptr l 0, .mb g bs.length cap 1]) ∧ s g = some (.tc 5 cs) ∧ cs.length = cap ∧ cs.take bs.length = bs.map byteAV ∧ bs.length ≤ cap ∧ cap ≤ maxLen))
theorem BU.bd {l : Nat} {bs : List UInt8} {s0 s : Hp} (h : BU l bs s0 s) : BD l bs s0 s := by
  obtain ⟨h1, h2, h3⟩ := h
  exact ⟨h1, h2, h3.imp (fun h => ⟨h.1, .inr h.2⟩) id⟩

theorem copyCheck_spec (l : Nat) (bs : List UInt8) (s0 s : Hp) (h : BD l bs s0 s) :
    AC Tryd.prog 33 [.ptr l 0] s fun _ s' => BU l bs s0 s' := by
  obtain ⟨h1, h2, h3⟩ := h
  refine AC_run hm prep33 (by simp) ?_
  rcases h3 with ⟨rfl, hl | hl⟩ | ⟨hb, g, cap, cs, hg, g1, g2, g3⟩
  · simp (dsimp := false) (implicitDefEqProofs := false) (maxSteps := 1000000) (disch := first | omega | assumption | (simp only [rL, Nat.reduceAdd]; done) | (simp only [rL, Nat.reduceAdd]; omega)) only [↓rD, rU, ev, ofConst, ofCell, ↓reduceIte, Nat.reduceEqDiff, Nat.reduceAdd, Nat.reduceSub, Nat.reduceMul, Nat.reduceLeDiff, Nat.reduceLT, Int.reduceNeg, Int.reduceToNat, Int.reduceAdd, Int.reduceSub, Int.reduceMul, Int.reduceLT, Int.reduceLE, Int.reduceEq, rX, List.drop_succ_cons, ↓rF, rG, ne_eq, not_true_eq_false, not_false_eq_true, Int.reduceNe, List.getElem?_cons_zero, List.getElem?_cons_succ, ↓rK, rM, Hp.read_ofT hl, mkv_one]
    refine toU_ptr (Hp.read_ofT hl) (by simp) ?_
    simp (dsimp := false) (implicitDefEqProofs := false) (maxSteps := 1000000) (disch := first | omega | assumption | (simp only [rL, Nat.reduceAdd]; done) | (simp only [rL, Nat.reduceAdd]; omega)) only [↓rD, rU, ev, ofConst, ofCell, ↓reduceIte, Nat.reduceEqDiff, Nat.reduceAdd, Nat.reduceSub, Nat.reduceMul, Nat.reduceLeDiff, Nat.reduceLT, Int.reduceNeg, Int.reduceToNat, Int.reduceAdd, Int.reduceSub, Int.reduceMul, Int.reduceLT, Int.reduceLE, Int.reduceEq, rX, List.drop_succ_cons, ↓rF, rG, ne_eq, not_true_eq_false, not_false_eq_true, Int.reduceNe, List.getElem?_cons_zero, List.getElem?_cons_succ, ↓rK, rM]
    refine frU_ptr hl (by simp) ?_
    simp (dsimp := false) (implicitDefEqProofs := false) (maxSteps := 1000000) (disch := first | omega | assumption | (simp only [rL, Nat.reduceAdd]; done) | (simp only [rL, Nat.reduceAdd]; omega)) only [↓rD, rU, ev, ofConst, ofCell, ↓reduceIte, Nat.reduceEqDiff, Nat.reduceAdd, Nat.reduceSub, Nat.reduceMul, Nat.reduceLeDiff, Nat.reduceLT, Int.reduceNeg, Int.reduceToNat, Int.reduceAdd, Int.reduceSub, Int.reduceMul, Int.reduceLT, Int.reduceLE, Int.reduceEq, rX, List.drop_succ_cons, ↓rF, rG, ne_eq, not_true_eq_false, not_false_eq_true, Int.reduceNe, List.getElem?_cons_zero, List.getElem?_cons_succ, ↓rK, rM]
    refine storeX_t hl (by simp) (by simp) ?_
    simp (dsimp := false) (implicitDefEqProofs := false) (maxSteps := 1000000) (disch := first | omega | assumption | (simp only [rL, Nat.reduceAdd]; done) | (simp only [rL, Nat.reduceAdd]; omega)) only [↓rD, rU, ev, ofConst, ofCell, ↓reduceIte, Nat.reduceEqDiff, Nat.reduceAdd, Nat.reduceSub, Nat.reduceMul, Nat.reduceLeDiff, Nat.reduceLT, Int.reduceNeg, Int.reduceToNat, Int.reduceAdd, Int.reduceSub, Int.reduceMul, Int.reduceLT, Int.reduceLE, Int.reduceEq, rX, List.drop_succ_cons, ↓rF, rG, ne_eq, not_true_eq_false, not_false_eq_true, Int.reduceNe, List.getElem?_cons_zero, List.getElem?_cons_succ, ↓rK, rM]
    refine ⟨_, Hp.sub_refl, Hp.sub_new h1 h2, h2, .inl ⟨rfl, ?_⟩⟩
    rw [Hp.set_same]; rfl
  · have hc : isCells s l = true := by simp [isCells, hl]
    simp (dsimp := false) (implicitDefEqProofs := false) (maxSteps := 1000000) (disch := first | omega | assumption | (simp only [rL, Nat.reduceAdd]; done) | (simp only [rL, Nat.reduceAdd]; omega)) only [↓rD, rU, ev, ofConst, ofCell, ↓reduceIte, Nat.reduceEqDiff, Nat.reduceAdd, Nat.reduceSub, Nat.reduceMul, Nat.reduceLeDiff, Nat.reduceLT, Int.reduceNeg, Int.reduceToNat, Int.reduceAdd, Int.reduceSub, Int.reduceMul, Int.reduceLT, Int.reduceLE, Int.reduceEq, rX, List.drop_succ_cons, ↓rF, rG, ne_eq, not_true_eq_false, not_false_eq_true, Int.reduceNe, List.getElem?_cons_zero, List.getElem?_cons_succ, ↓rK, rM, Hp.read_ofT hl, mkv_one, eqppA_same hc]
    exact ⟨_, Hp.sub_refl, h1, h2, .inl ⟨rfl, hl⟩⟩
  · have hc : isCells s l = true := by simp [isCells, g2]
    simp (dsimp := false) (implicitDefEqProofs := false) (maxSteps := 1000000) (disch := first | omega | assumption | (simp only [rL, Nat.reduceAdd]; done) | (simp only [rL, Nat.reduceAdd]; omega)) only [↓rD, rU, ev, ofConst, ofCell, ↓reduceIte, Nat.reduceEqDiff, Nat.reduceAdd, Nat.reduceSub, Nat.reduceMul, Nat.reduceLeDiff, Nat.reduceLT, Int.reduceNeg, Int.reduceToNat, Int.reduceAdd, Int.reduceSub, Int.reduceMul, Int.reduceLT, Int.reduceLE, Int.reduceEq, rX, List.drop_succ_cons, ↓rF, rG, ne_eq, not_true_eq_false, not_false_eq_true, Int.reduceNe, List.getElem?_cons_zero, List.getElem?_cons_succ, ↓rK, rM, Hp.read_ofT g2, mkv_one, eqppA_same hc]
    exact ⟨_, Hp.sub_refl, h1, h2, .inr ⟨hb, g, cap, cs, hg, g1, g2, g3⟩⟩

/-- bytes are appended to the builder's buffer -/
theorem appT_intro {l : Nat} {bs : List UInt8} {s0 s : Hp} {y : AV} {m : Nat} {ys : List UInt8} {C : AV → Hp → Prop} {d : Dep C} (h : BU l bs s0 s) (hs : srcS s 1 y = some (m, ys.map byteAV)) (hm : m = ys.length) (hle : bs.length + ys.length ≤ 1000000000)
    {x : AV} (hx : s l = some (.tc 42 [.ptr l 0, x])) (hC : ∀ x' s', x'.cells = [x'] → s' l = some (.tc 42 [.ptr l 0, x]) → BU l (bs ++ ys) s0 (s'.set l (.tc 42 [.ptr l 0, x'])) → C x' s') :
    appTK 5 s x y (hid2 C d) := by
  obtain ⟨h1, h2, h3⟩ := h
  unfold appTK
  rw [hs]
  subst hm
  simp only [hid2]
  rcases h3 with ⟨rfl, hl⟩ | ⟨hb, g, cap, cs, hg, g1, g2, g3, g4, g5, g6, g7⟩
  · rw [hl] at hx
    obtain rfl : AV.sl [] .nil = x := by simpa using hx
    refine ⟨rfl, .inl rfl, by simp at hle; omega, ?_⟩
    split
    · rename_i h0
      obtain rfl : ys = [] := List.eq_nil_of_length_eq_zero h0
      refine hC _ _ rfl hl ?_
      refine ⟨Hp.sub_new h1 h2, h2, .inl ⟨rfl, Hp.set_same _ _ _⟩⟩
    · intro g cap sp hg hc hcm hsp
      have hgl : g ≠ l := by rintro rfl; rw [hg] at hl; cases hl
      refine hC _ _ rfl (by rw [Hp.set_ne _ _ (Ne.symm hgl)]; exact hl) ?_
      refine ⟨Hp.sub_new (Hp.sub_new h1 (Hp.sub_none h1 hg)) h2, h2, .inr ⟨by simp; omega, g, cap, ys.map byteAV ++ sp, hgl, Hp.sub_none h1 hg, by rw [Hp.set_same]; simp, by rw [Hp.set_ne _ _ hgl, Hp.set_same], by simp; omega, by simp, by simp; omega, hcm⟩⟩
  · rw [g2] at hx
    obtain rfl : AV.mb g bs.length cap 1 = x := by simpa using hx
    have hgl := hg
    simp only [g3]
    refine ⟨trivial, trivial, by omega, by omega, ?_⟩
    split
    · rename_i hroom
      refine hC _ _ rfl (by rw [Hp.set_ne _ _ (Ne.symm hgl)]; exact g2) ?_
      refine ⟨Hp.sub_new (Hp.sub_new h1 g1) h2, h2, .inr ⟨by simp; omega, g, cap, putAt cs (bs.length * 1) (ys.map byteAV), hgl, g1, by rw [Hp.set_same]; simp, by rw [Hp.set_ne _ _ hgl, Hp.set_same], ?_, ?_, by simp; omega, g7⟩⟩
      · rw [putAt_length _ _ _ (by simp; omega), g4]
      · have e1 : (cs.take (bs.length * 1) ++ ys.map byteAV).length = (bs ++ ys).length := by simp; omega
        rw [putAt, ← e1, List.take_left, Nat.mul_one, g5, List.map_append]
    · intro g' cap' sp hg' hc hcm hsp
      have hgl' : g' ≠ l := by rintro rfl; rw [hg'] at g2; cases g2
      refine hC _ _ rfl (by rw [Hp.set_ne _ _ (Ne.symm hgl')]; exact g2) ?_
      refine ⟨Hp.sub_new (Hp.sub_new h1 (Hp.sub_none h1 hg')) h2, h2, .inr ⟨by simp; omega, g', cap', cs.take (bs.length * 1) ++ ys.map byteAV ++ sp, hgl', Hp.sub_none h1 hg', by rw [Hp.set_same]; simp, by rw [Hp.set_ne _ _ hgl', Hp.set_same], ?_, ?_, by simp; omega, hcm⟩⟩
      · simp; omega
      · have e1 : (cs.take (bs.length * 1) ++ ys.map byteAV).length = (bs ++ ys).length := by simp; omega
        rw [← e1, List.take_left, Nat.mul_one, g5, List.map_append]

theorem BU.mono {l : Nat} {bs : List UInt8} {s0 s s2 : Hp} (h : BU l bs s0 s) (hs : s.sub s2) : BU l bs s0 s2 := by
  obtain ⟨h1, h2, h3⟩ := h
  refine ⟨Hp.sub_trans h1 hs, h2, ?_⟩
  rcases h3 with ⟨hb, h⟩ | ⟨hb, g, cap, cs, hg, g1, g2, g3, g4⟩
  · exact .inl ⟨hb, hs _ _ h⟩
  · exact .inr ⟨hb, g, cap, cs, hg, g1, hs _ _ g2, hs _ _ g3, g4⟩
theorem BU.cell {l : Nat} {bs : List UInt8} {s0 s : Hp} (h : BU l bs s0 s) : ∃ x, s l = some (.tc 42 [.ptr l 0, x]) := by
  obtain ⟨_, _, h3⟩ := h
  rcases h3 with ⟨_, h⟩ | ⟨_, g, cap, cs, _, _, h, _⟩
  · exact ⟨_, h⟩
  · exact ⟨_, h⟩

theorem writeByte_spec (l : Nat) (bs : List UInt8) (c : UInt8) (s0 s : Hp) (h : BD l bs s0 s) (hle : bs.length + 1 ≤ 1000000000) :
    AC Tryd.prog 15 [.ptr l 0, .v (.int .u8 c.toNat)] s fun _ s' => BD l (bs ++ [c]) s0 s' := by
  refine AC_run hm prep15 (by simp) ?_
  simp (dsimp := false) (implicitDefEqProofs := false) (maxSteps := 1000000) (disch := first | omega | assumption | (simp only [rL, Nat.reduceAdd]; done) | (simp only [rL, Nat.reduceAdd]; omega)) only [↓rD, rU, ev, ofConst, ofCell, ↓reduceIte, Nat.reduceEqDiff, Nat.reduceAdd, Nat.reduceSub, Nat.reduceMul, Nat.reduceLeDiff, Nat.reduceLT, Int.reduceNeg, Int.reduceToNat, Int.reduceAdd, Int.reduceSub, Int.reduceMul, Int.reduceLT, Int.reduceLE, Int.reduceEq, rX, List.drop_succ_cons, ↓rF, rG, ne_eq, not_true_eq_false, not_false_eq_true, Int.reduceNe, List.getElem?_cons_zero, List.getElem?_cons_succ, ↓rK, rM]
  refine call_intro (copyCheck_spec l bs s0 s h) ?_
  intro r s1 h1
  obtain ⟨x, hx⟩ := h1.cell
  simp (dsimp := false) (implicitDefEqProofs := false) (maxSteps := 1000000) (disch := first | omega | assumption | (simp only [rL, Nat.reduceAdd]; done) | (simp only [rL, Nat.reduceAdd]; omega)) only [↓rD, rU, ev, ofConst, ofCell, ↓reduceIte, Nat.reduceEqDiff, Nat.reduceAdd, Nat.reduceSub, Nat.reduceMul, Nat.reduceLeDiff, Nat.reduceLT, Int.reduceNeg, Int.reduceToNat, Int.reduceAdd, Int.reduceSub, Int.reduceMul, Int.reduceLT, Int.reduceLE, Int.reduceEq, rX, List.drop_succ_cons, ↓rF, rG, ne_eq, not_true_eq_false, not_false_eq_true, Int.reduceNe, List.getElem?_cons_zero, List.getElem?_cons_succ, ↓rK, rM, Hp.read_ofT hx, mkv_one]
  refine bsl_byte Hp.sub_refl fun o1 s2 h2 => ?_
  have hx2 := h2.sub _ _ hx
  simp (dsimp := false) (implicitDefEqProofs := false) (maxSteps := 1000000) (disch := first | omega | assumption | (simp only [rL, Nat.reduceAdd]; done) | (simp only [rL, Nat.reduceAdd]; omega)) only [↓rD, rU, ev, ofConst, ofCell, ↓reduceIte, Nat.reduceEqDiff, Nat.reduceAdd, Nat.reduceSub, Nat.reduceMul, Nat.reduceLeDiff, Nat.reduceLT, Int.reduceNeg, Int.reduceToNat, Int.reduceAdd, Int.reduceSub, Int.reduceMul, Int.reduceLT, Int.reduceLE, Int.reduceEq, rX, List.drop_succ_cons, ↓rF, rG, ne_eq, not_true_eq_false, not_false_eq_true, Int.reduceNe, List.getElem?_cons_zero, List.getElem?_cons_succ, ↓rK, rM]
  refine appT_intro (ys := [c]) (h1.mono h2.sub) (srcS_of (srcF_bytes (bs := [c]))) rfl (by simpa using hle) hx2 fun x' s3 hc hx3 h3 => ?_
  simp (dsimp := false) (implicitDefEqProofs := false) (maxSteps := 1000000) (disch := first | omega | assumption | (simp only [rL, Nat.reduceAdd]; done) | (simp only [rL, Nat.reduceAdd]; omega)) only [↓rD, rU, ev, ofConst, ofCell, ↓reduceIte, Nat.reduceEqDiff, Nat.reduceAdd, Nat.reduceSub, Nat.reduceMul, Nat.reduceLeDiff, Nat.reduceLT, Int.reduceNeg, Int.reduceToNat, Int.reduceAdd, Int.reduceSub, Int.reduceMul, Int.reduceLT, Int.reduceLE, Int.reduceEq, rX, List.drop_succ_cons, ↓rF, rG, ne_eq, not_true_eq_false, not_false_eq_true, Int.reduceNe, List.getElem?_cons_zero, List.getElem?_cons_succ, ↓rK, rM]
  refine storeX_t hx3 (by rw [hc]; rfl) (by simp) ?_
  rw [hc]
  simp (dsimp := false) (implicitDefEqProofs := false) (maxSteps := 1000000) (disch := first | omega | assumption | (simp only [rL, Nat.reduceAdd]; done) | (simp only [rL, Nat.reduceAdd]; omega)) only [↓rD, rU, ev, ofConst, ofCell, ↓reduceIte, Nat.reduceEqDiff, Nat.reduceAdd, Nat.reduceSub, Nat.reduceMul, Nat.reduceLeDiff, Nat.reduceLT, Int.reduceNeg, Int.reduceToNat, Int.reduceAdd, Int.reduceSub, Int.reduceMul, Int.reduceLT, Int.reduceLE, Int.reduceEq, rX, List.drop_succ_cons, ↓rF, rG, ne_eq, not_true_eq_false, not_false_eq_true, Int.reduceNe, List.getElem?_cons_zero, List.getElem?_cons_succ, ↓rK, rM]
  exact ⟨_, Hp.sub_refl, h3.bd⟩

theorem writeString_spec (l : Nat) (bs cs : List UInt8) (s0 s : Hp) (h : BD l bs s0 s) (hle : bs.length + cs.length ≤ 1000000000) :
    AC Tryd.prog 16 [.ptr l 0, strV cs] s fun _ s' => BD l (bs ++ cs) s0 s' := by
  refine AC_run hm prep16 (by simp) ?_
  simp (dsimp := false) (implicitDefEqProofs := false) (maxSteps := 1000000) (disch := first | omega | assumption | (simp only [rL, Nat.reduceAdd]; done) | (simp only [rL, Nat.reduceAdd]; omega)) only [↓rD, rU, ev, ofConst, ofCell, ↓reduceIte, Nat.reduceEqDiff, Nat.reduceAdd, Nat.reduceSub, Nat.reduceMul, Nat.reduceLeDiff, Nat.reduceLT, Int.reduceNeg, Int.reduceToNat, Int.reduceAdd, Int.reduceSub, Int.reduceMul, Int.reduceLT, Int.reduceLE, Int.reduceEq, rX, List.drop_succ_cons, ↓rF, rG, ne_eq, not_true_eq_false, not_false_eq_true, Int.reduceNe, List.getElem?_cons_zero, List.getElem?_cons_succ, ↓rK, rM, strV]
  refine call_intro (copyCheck_spec l bs s0 s h) ?_
  intro r s1 h1
  obtain ⟨x, hx⟩ := h1.cell
  simp (dsimp := false) (implicitDefEqProofs := false) (maxSteps := 1000000) (disch := first | omega | assumption | (simp only [rL, Nat.reduceAdd]; done) | (simp only [rL, Nat.reduceAdd]; omega)) only [↓rD, rU, ev, ofConst, ofCell, ↓reduceIte, Nat.reduceEqDiff, Nat.reduceAdd, Nat.reduceSub, Nat.reduceMul, Nat.reduceLeDiff, Nat.reduceLT, Int.reduceNeg, Int.reduceToNat, Int.reduceAdd, Int.reduceSub, Int.reduceMul, Int.reduceLT, Int.reduceLE, Int.reduceEq, rX, List.drop_succ_cons, ↓rF, rG, ne_eq, not_true_eq_false, not_false_eq_true, Int.reduceNe, List.getElem?_cons_zero, List.getElem?_cons_succ, ↓rK, rM, Hp.read_ofT hx, mkv_one, strV]
  refine appT_intro (ys := cs) h1 (m := cs.length) (by simp [srcS, size_str]) rfl hle hx fun x' s3 hc hx3 h3 => ?_
  simp (dsimp := false) (implicitDefEqProofs := false) (maxSteps := 1000000) (disch := first | omega | assumption | (simp only [rL, Nat.reduceAdd]; done) | (simp only [rL, Nat.reduceAdd]; omega)) only [↓rD, rU, ev, ofConst, ofCell, ↓reduceIte, Nat.reduceEqDiff, Nat.reduceAdd, Nat.reduceSub, Nat.reduceMul, Nat.reduceLeDiff, Nat.reduceLT, Int.reduceNeg, Int.reduceToNat, Int.reduceAdd, Int.reduceSub, Int.reduceMul, Int.reduceLT, Int.reduceLE, Int.reduceEq, rX, List.drop_succ_cons, ↓rF, rG, ne_eq, not_true_eq_false, not_false_eq_true, Int.reduceNe, List.getElem?_cons_zero, List.getElem?_cons_succ, ↓rK, rM]
  refine storeX_t hx3 (by rw [hc]; rfl) (by simp) ?_
  rw [hc]
  simp (dsimp := false) (implicitDefEqProofs := false) (maxSteps := 1000000) (disch := first | omega | assumption | (simp only [rL, Nat.reduceAdd]; done) | (simp only [rL, Nat.reduceAdd]; omega)) only [↓rD, rU, ev, ofConst, ofCell, ↓reduceIte, Nat.reduceEqDiff, Nat.reduceAdd, Nat.reduceSub, Nat.reduceMul, Nat.reduceLeDiff, Nat.reduceLT, Int.reduceNeg, Int.reduceToNat, Int.reduceAdd, Int.reduceSub, Int.reduceMul, Int.reduceLT, Int.reduceLE, Int.reduceEq, rX, List.drop_succ_cons, ↓rF, rG, ne_eq, not_true_eq_false, not_false_eq_true, Int.reduceNe, List.getElem?_cons_zero, List.getElem?_cons_succ, ↓rK, rM, strV]
  exact ⟨_, Hp.sub_refl, h3.bd⟩

theorem builderString_spec (l : Nat) (bs : List UInt8) (s0 s : Hp) (h : BD l bs s0 s) :
    AC Tryd.prog 17 [.ptr l 0] s fun r s' => s0.sub s' ∧ r = strV bs := by
  obtain ⟨h1, h2, h3⟩ := h
  refine AC_run hm prep17 (by simp) ?_
  rcases h3 with ⟨rfl, hl | hl⟩ | ⟨hb, g, cap, cs, hg, g1, g2, g3, g4, g5, g6, g7⟩
  · simp (dsimp := false) (implicitDefEqProofs := false) (maxSteps := 1000000) (disch := first | omega | assumption | (simp only [rL, Nat.reduceAdd]; done) | (simp only [rL, Nat.reduceAdd]; omega)) only [↓rD, rU, ev, ofConst, ofCell, ↓reduceIte, Nat.reduceEqDiff, Nat.reduceAdd, Nat.reduceSub, Nat.reduceMul, Nat.reduceLeDiff, Nat.reduceLT, Int.reduceNeg, Int.reduceToNat, Int.reduceAdd, Int.reduceSub, Int.reduceMul, Int.reduceLT, Int.reduceLE, Int.reduceEq, rX, List.drop_succ_cons, ↓rF, rG, ne_eq, not_true_eq_false, not_false_eq_true, Int.reduceNe, List.getElem?_cons_zero, List.getElem?_cons_succ, ↓rK, rM, Hp.read_ofT hl, mkv_one]
    refine ustr_nil ?_
    simp (dsimp := false) (implicitDefEqProofs := false) (maxSteps := 1000000) (disch := first | omega | assumption | (simp only [rL, Nat.reduceAdd]; done) | (simp only [rL, Nat.reduceAdd]; omega)) only [↓rD, rU, ev, ofConst, ofCell, ↓reduceIte, Nat.reduceEqDiff, Nat.reduceAdd, Nat.reduceSub, Nat.reduceMul, Nat.reduceLeDiff, Nat.reduceLT, Int.reduceNeg, Int.reduceToNat, Int.reduceAdd, Int.reduceSub, Int.reduceMul, Int.reduceLT, Int.reduceLE, Int.reduceEq, rX, List.drop_succ_cons, ↓rF, rG, ne_eq, not_true_eq_false, not_false_eq_true, Int.reduceNe, List.getElem?_cons_zero, List.getElem?_cons_succ, ↓rK, rM]
    exact ⟨_, Hp.sub_refl, h1, rfl⟩
  · simp (dsimp := false) (implicitDefEqProofs := false) (maxSteps := 1000000) (disch := first | omega | assumption | (simp only [rL, Nat.reduceAdd]; done) | (simp only [rL, Nat.reduceAdd]; omega)) only [↓rD, rU, ev, ofConst, ofCell, ↓reduceIte, Nat.reduceEqDiff, Nat.reduceAdd, Nat.reduceSub, Nat.reduceMul, Nat.reduceLeDiff, Nat.reduceLT, Int.reduceNeg, Int.reduceToNat, Int.reduceAdd, Int.reduceSub, Int.reduceMul, Int.reduceLT, Int.reduceLE, Int.reduceEq, rX, List.drop_succ_cons, ↓rF, rG, ne_eq, not_true_eq_false, not_false_eq_true, Int.reduceNe, List.getElem?_cons_zero, List.getElem?_cons_succ, ↓rK, rM, Hp.read_ofT hl, mkv_one]
    refine ustr_nil ?_
    simp (dsimp := false) (implicitDefEqProofs := false) (maxSteps := 1000000) (disch := first | omega | assumption | (simp only [rL, Nat.reduceAdd]; done) | (simp only [rL, Nat.reduceAdd]; omega)) only [↓rD, rU, ev, ofConst, ofCell, ↓reduceIte, Nat.reduceEqDiff, Nat.reduceAdd, Nat.reduceSub, Nat.reduceMul, Nat.reduceLeDiff, Nat.reduceLT, Int.reduceNeg, Int.reduceToNat, Int.reduceAdd, Int.reduceSub, Int.reduceMul, Int.reduceLT, Int.reduceLE, Int.reduceEq, rX, List.drop_succ_cons, ↓rF, rG, ne_eq, not_true_eq_false, not_false_eq_true, Int.reduceNe, List.getElem?_cons_zero, List.getElem?_cons_succ, ↓rK, rM]
    exact ⟨_, Hp.sub_refl, h1, rfl⟩
  · simp (dsimp := false) (implicitDefEqProofs := false) (maxSteps := 1000000) (disch := first | omega | assumption | (simp only [rL, Nat.reduceAdd]; done) | (simp only [rL, Nat.reduceAdd]; omega)) only [↓rD, rU, ev, ofConst, ofCell, ↓reduceIte, Nat.reduceEqDiff, Nat.reduceAdd, Nat.reduceSub, Nat.reduceMul, Nat.reduceLeDiff, Nat.reduceLT, Int.reduceNeg, Int.reduceToNat, Int.reduceAdd, Int.reduceSub, Int.reduceMul, Int.reduceLT, Int.reduceLE, Int.reduceEq, rX, List.drop_succ_cons, ↓rF, rG, ne_eq, not_true_eq_false, not_false_eq_true, Int.reduceNe, List.getElem?_cons_zero, List.getElem?_cons_succ, ↓rK, rM, Hp.read_ofT g2, mkv_one]
    refine ustr_some g3 hb (by omega) (by unfold maxLen at g7; omega) g5 ?_
    simp (dsimp := false) (implicitDefEqProofs := false) (maxSteps := 1000000) (disch := first | omega | assumption | (simp only [rL, Nat.reduceAdd]; done) | (simp only [rL, Nat.reduceAdd]; omega)) only [↓rD, rU, ev, ofConst, ofCell, ↓reduceIte, Nat.reduceEqDiff, Nat.reduceAdd, Nat.reduceSub, Nat.reduceMul, Nat.reduceLeDiff, Nat.reduceLT, Int.reduceNeg, Int.reduceToNat, Int.reduceAdd, Int.reduceSub, Int.reduceMul, Int.reduceLT, Int.reduceLE, Int.reduceEq, rX, List.drop_succ_cons, ↓rF, rG, ne_eq, not_true_eq_false, not_false_eq_true, Int.reduceNe, List.getElem?_cons_zero, List.getElem?_cons_succ, ↓rK, rM]
    refine ⟨_, Hp.sub_refl, fun l' o ho => ?_, rfl⟩
    have hne : l' ≠ g := by rintro rfl; rw [g1] at ho; cases ho
    rw [Hp.del_ne _ hne]; exact h1 _ _ ho

/-! ### lex.Text -/
/-- texts with a blank between each two -/
def joinT : List (List UInt8) → List UInt8
  | [] => []
  | x :: r => x ++ r.flatMap fun y => 32 :: y
theorem joinT_snoc (a : List (List UInt8)) (x : List UInt8) : joinT (a ++ [x]) = (if a = [] then joinT a else joinT a ++ [32]) ++ x := by
  cases a with
  | nil => simp [joinT]
  | cons y r => simp [joinT]
def texts (ts : List (Tok × Nat)) : List (List UInt8) := ts.map fun p => p.1.text
theorem joinT_take_le (a : List (List UInt8)) : ∀ b : List (List UInt8), (joinT a).length ≤ (joinT (a ++ b)).length := fun b => by
  cases a with
  | nil => simp [joinT]
  | cons y r => simp [joinT]

theorem iaSA_TL {ts : List (Tok × Nat)} {o : Own} {i : Nat} {t : Tok} {n : Nat} {k : IntKind} (h : ts[i]? = some (t, n)) : iaSA 4 (.sl (TL ts) o) (.v (.int k (i : Int))) = some (.rptr (t.C n)) := by
  have hel : (TL ts)[i]? = some (t.V n) := by simp [TL, h]
  have h0 : (0 : Int) ≤ (i : Int) := by omega
  simp only [iaSA, h0, if_true, Int.toNat_natCast, hel]
  rw [elA_some (e := t.V n) (k := 4) rfl]; rfl
theorem Text_spec (ts : List (Tok × Nat)) (o : Own) (s : Hp) (hle : (joinT (texts ts)).length ≤ 900000000) (hn : ts.length ≤ 1000000) :
    AC Tryd.prog 8 [.sl (TL ts) o] s fun r s' => s.sub s' ∧ r = strV (joinT (texts ts)) := by
  refine AC_run hm prep8 (by simp) ?_
  have hTL : (TL ts).length = ts.length := by simp [TL]
  simp (dsimp := false) (implicitDefEqProofs := false) (maxSteps := 1000000) (disch := first | omega | assumption | (simp only [rL, Nat.reduceAdd]; done) | (simp only [rL, Nat.reduceAdd]; omega)) only [↓rD, rU, ev, ofConst, ofCell, ↓reduceIte, Nat.reduceEqDiff, Nat.reduceAdd, Nat.reduceSub, Nat.reduceMul, Nat.reduceLeDiff, Nat.reduceLT, Int.reduceNeg, Int.reduceToNat, Int.reduceAdd, Int.reduceSub, Int.reduceMul, Int.reduceLT, Int.reduceLE, Int.reduceEq, rX, List.drop_succ_cons, ↓rF, rG, ne_eq, not_true_eq_false, not_false_eq_true, Int.reduceNe, List.getElem?_cons_zero, List.getElem?_cons_succ, ↓rK, rM]
  refine newK_intro fun l nl => ?_
  simp (dsimp := false) (implicitDefEqProofs := false) (maxSteps := 1000000) (disch := first | omega | assumption | (simp only [rL, Nat.reduceAdd]; done) | (simp only [rL, Nat.reduceAdd]; omega)) only [↓rD, rU, ev, ofConst, ofCell, ↓reduceIte, Nat.reduceEqDiff, Nat.reduceAdd, Nat.reduceSub, Nat.reduceMul, Nat.reduceLeDiff, Nat.reduceLT, Int.reduceNeg, Int.reduceToNat, Int.reduceAdd, Int.reduceSub, Int.reduceMul, Int.reduceLT, Int.reduceLE, Int.reduceEq, rX, List.drop_succ_cons, ↓rF, rG, ne_eq, not_true_eq_false, not_false_eq_true, Int.reduceNe, List.getElem?_cons_zero, List.getElem?_cons_succ, ↓rK, rM]
  refine loop_intro (fun f s' => ∃ i : Nat, i ≤ ts.length ∧ BD l (joinT (texts (ts.take i))) s s' ∧ f 3 = .ptr l 0 ∧ f 6 = .sl (TL ts) o ∧ f 7 = .v (.int .i64 ts.length) ∧ f 8 = .v (.int .i64 i))
    (fun f _ => match f 8 with | .v (.int _ n) => ts.length - n.toNat | _ => 0) ⟨0, by omega, ⟨Hp.sub_new Hp.sub_refl nl, nl, .inl ⟨rfl, .inl (Hp.set_same _ _ _)⟩⟩, ?_⟩ ?_
  · simp (dsimp := false) (implicitDefEqProofs := false) (maxSteps := 1000000) (disch := first | omega | assumption | (simp only [rL, Nat.reduceAdd]; done) | (simp only [rL, Nat.reduceAdd]; omega)) only [↓rD, rU, ev, ofConst, ofCell, ↓reduceIte, Nat.reduceEqDiff, Nat.reduceAdd, Nat.reduceSub, Nat.reduceMul, Nat.reduceLeDiff, Nat.reduceLT, Int.reduceNeg, Int.reduceToNat, Int.reduceAdd, Int.reduceSub, Int.reduceMul, Int.reduceLT, Int.reduceLE, Int.reduceEq, rX, List.drop_succ_cons, ↓rF, rG, ne_eq, not_true_eq_false, not_false_eq_true, Int.reduceNe, List.getElem?_cons_zero, List.getElem?_cons_succ, ↓rK, rM, hTL]
  · rintro f s' ⟨i, hi, hb, f3, f6, f7, f8⟩
    by_cases hlt : (i : Int) < (ts.length : Int)
    · have hi' : i < ts.length := by omega
      have hel : ts[i]? = some ts[i] := List.getElem?_eq_getElem hi'
      generalize hp : ts[i] = p at hel
      obtain ⟨t, at_⟩ := p
      have hsnoc : joinT (texts (ts.take (i + 1))) = (if i = 0 then joinT (texts (ts.take i)) else joinT (texts (ts.take i)) ++ [32]) ++ t.text := by
        have e1 : ts.take (i + 1) = ts.take i ++ [(t, at_)] := by rw [List.take_succ, List.getElem?_eq_getElem hi', hp]; rfl
        have e2 : texts (ts.take (i + 1)) = texts (ts.take i) ++ [t.text] := by rw [e1]; simp [texts]
        rw [e2, joinT_snoc]
        have e3 : (texts (ts.take i) = []) ↔ i = 0 := by
          simp only [texts, List.map_eq_nil_iff]
          constructor
          · intro h; have := congrArg List.length h; simp only [List.length_take, List.length_nil] at this; omega
          · rintro rfl; rfl
        by_cases h0 : i = 0
        · rw [if_pos (e3.2 h0), if_pos h0]
        · rw [if_neg (fun h => h0 (e3.1 h)), if_neg h0]
      have hlen : (joinT (texts (ts.take (i + 1)))).length ≤ 900000000 := by
        refine Nat.le_trans ?_ hle
        have e : texts ts = texts (ts.take (i + 1)) ++ texts (ts.drop (i + 1)) := by
          rw [texts, texts, texts, ← List.map_append, List.take_append_drop]
        rw [e]; exact joinT_take_le _ _
      rw [hsnoc] at hlen
      simp (dsimp := false) (implicitDefEqProofs := false) (maxSteps := 1000000) (disch := first | omega | assumption | (simp only [rL, Nat.reduceAdd]; done) | (simp only [rL, Nat.reduceAdd]; omega)) only [↓rD, rU, ev, ofConst, ofCell, ↓reduceIte, Nat.reduceEqDiff, Nat.reduceAdd, Nat.reduceSub, Nat.reduceMul, Nat.reduceLeDiff, Nat.reduceLT, Int.reduceNeg, Int.reduceToNat, Int.reduceAdd, Int.reduceSub, Int.reduceMul, Int.reduceLT, Int.reduceLE, Int.reduceEq, rX, List.drop_succ_cons, ↓rF, rG, ne_eq, not_true_eq_false, not_false_eq_true, Int.reduceNe, List.getElem?_cons_zero, List.getElem?_cons_succ, ↓rK, rM, f3, f6, f7, f8, hlt, iaSA_TL hel, rTok]
      refine newK_intro fun l5 n5 => ?_
      have dl5 : l ≠ l5 := by
        obtain ⟨_, _, h3⟩ := hb
        rintro rfl
        rcases h3 with ⟨_, h | h⟩ | ⟨_, g, cap, cs, _, _, h, _⟩ <;> rw [n5] at h <;> cases h
      have hb1 := hb.new (ob := .tc 35 (t.C at_)) n5
      simp (dsimp := false) (implicitDefEqProofs := false) (maxSteps := 1000000) (disch := first | omega | assumption | (simp only [rL, Nat.reduceAdd]; done) | (simp only [rL, Nat.reduceAdd]; omega)) only [↓rD, rU, ev, ofConst, ofCell, ↓reduceIte, Nat.reduceEqDiff, Nat.reduceAdd, Nat.reduceSub, Nat.reduceMul, Nat.reduceLeDiff, Nat.reduceLT, Int.reduceNeg, Int.reduceToNat, Int.reduceAdd, Int.reduceSub, Int.reduceMul, Int.reduceLT, Int.reduceLE, Int.reduceEq, rX, List.drop_succ_cons, ↓rF, rG, ne_eq, not_true_eq_false, not_false_eq_true, Int.reduceNe, List.getElem?_cons_zero, List.getElem?_cons_succ, ↓rK, rM, f3, f6, f7, f8, rTok]
      refine storeX_t (Hp.set_same _ _ _) (by rw [tok_len]) (by rw [tok_len]; omega) ?_
      by_cases h0 : i = 0
      · subst h0
        rw [if_pos rfl] at hsnoc hlen
        simp (dsimp := false) (implicitDefEqProofs := false) (maxSteps := 1000000) (disch := first | omega | assumption | (simp only [rL, Nat.reduceAdd]; done) | (simp only [rL, Nat.reduceAdd]; omega)) only [↓rD, rU, ev, ofConst, ofCell, ↓reduceIte, Nat.reduceEqDiff, Nat.reduceAdd, Nat.reduceSub, Nat.reduceMul, Nat.reduceLeDiff, Nat.reduceLT, Int.reduceNeg, Int.reduceToNat, Int.reduceAdd, Int.reduceSub, Int.reduceMul, Int.reduceLT, Int.reduceLE, Int.reduceEq, rX, List.drop_succ_cons, ↓rF, rG, ne_eq, not_true_eq_false, not_false_eq_true, Int.reduceNe, List.getElem?_cons_zero, List.getElem?_cons_succ, ↓rK, rM, f3, f6, f7, f8, rTok]
        refine call_intro (writeString_spec l _ t.text _ _ hb1 (by rw [List.length_append] at hlen; omega)) ?_
        intro r s3 hb3
        simp (dsimp := false) (implicitDefEqProofs := false) (maxSteps := 1000000) (disch := first | omega | assumption | (simp only [rL, Nat.reduceAdd]; done) | (simp only [rL, Nat.reduceAdd]; omega)) only [↓rD, rU, ev, ofConst, ofCell, ↓reduceIte, Nat.reduceEqDiff, Nat.reduceAdd, Nat.reduceSub, Nat.reduceMul, Nat.reduceLeDiff, Nat.reduceLT, Int.reduceNeg, Int.reduceToNat, Int.reduceAdd, Int.reduceSub, Int.reduceMul, Int.reduceLT, Int.reduceLE, Int.reduceEq, rX, List.drop_succ_cons, ↓rF, rG, ne_eq, not_true_eq_false, not_false_eq_true, Int.reduceNe, List.getElem?_cons_zero, List.getElem?_cons_succ, ↓rK, rM, f3, f6, f7, f8]
        refine ⟨⟨1, by omega, ?_, by simp⟩, by omega⟩
        rw [hsnoc]
        exact hb3.base (Hp.sub_new Hp.sub_refl (Hp.sub_none hb.1 n5))
      · rw [if_neg h0] at hsnoc hlen
        have h0' : (0 : Int) < (i : Int) := by omega
        simp only [List.length_append, List.length_singleton] at hlen
        simp (dsimp := false) (implicitDefEqProofs := false) (maxSteps := 1000000) (disch := first | omega | assumption | (simp only [rL, Nat.reduceAdd]; done) | (simp only [rL, Nat.reduceAdd]; omega)) only [↓rD, rU, ev, ofConst, ofCell, ↓reduceIte, Nat.reduceEqDiff, Nat.reduceAdd, Nat.reduceSub, Nat.reduceMul, Nat.reduceLeDiff, Nat.reduceLT, Int.reduceNeg, Int.reduceToNat, Int.reduceAdd, Int.reduceSub, Int.reduceMul, Int.reduceLT, Int.reduceLE, Int.reduceEq, rX, List.drop_succ_cons, ↓rF, rG, ne_eq, not_true_eq_false, not_false_eq_true, Int.reduceNe, List.getElem?_cons_zero, List.getElem?_cons_succ, ↓rK, rM, f3, f6, f7, f8, rTok, h0']
        refine call_intro (writeByte_spec l _ 32 _ _ hb1 (by omega)) ?_
        intro r s2 hb2
        have g5 : s2 l5 = some (.tc 35 (t.C at_)) := hb2.1 _ _ (Hp.set_same _ _ _)
        simp (dsimp := false) (implicitDefEqProofs := false) (maxSteps := 1000000) (disch := first | omega | assumption | (simp only [rL, Nat.reduceAdd]; done) | (simp only [rL, Nat.reduceAdd]; omega)) only [↓rD, rU, ev, ofConst, ofCell, ↓reduceIte, Nat.reduceEqDiff, Nat.reduceAdd, Nat.reduceSub, Nat.reduceMul, Nat.reduceLeDiff, Nat.reduceLT, Int.reduceNeg, Int.reduceToNat, Int.reduceAdd, Int.reduceSub, Int.reduceMul, Int.reduceLT, Int.reduceLE, Int.reduceEq, rX, List.drop_succ_cons, ↓rF, rG, ne_eq, not_true_eq_false, not_false_eq_true, Int.reduceNe, List.getElem?_cons_zero, List.getElem?_cons_succ, ↓rK, rM, f3, f6, f7, f8, rTok, Hp.read_ofT g5]
        refine call_intro (writeString_spec l _ t.text _ _ hb2 (by simp; omega)) ?_
        intro r s3 hb3
        simp (dsimp := false) (implicitDefEqProofs := false) (maxSteps := 1000000) (disch := first | omega | assumption | (simp only [rL, Nat.reduceAdd]; done) | (simp only [rL, Nat.reduceAdd]; omega)) only [↓rD, rU, ev, ofConst, ofCell, ↓reduceIte, Nat.reduceEqDiff, Nat.reduceAdd, Nat.reduceSub, Nat.reduceMul, Nat.reduceLeDiff, Nat.reduceLT, Int.reduceNeg, Int.reduceToNat, Int.reduceAdd, Int.reduceSub, Int.reduceMul, Int.reduceLT, Int.reduceLE, Int.reduceEq, rX, List.drop_succ_cons, ↓rF, rG, ne_eq, not_true_eq_false, not_false_eq_true, Int.reduceNe, List.getElem?_cons_zero, List.getElem?_cons_succ, ↓rK, rM, f3, f6, f7, f8]
        refine ⟨⟨i + 1, by omega, ?_, by simp⟩, by omega⟩
        rw [hsnoc]
        exact hb3.base (Hp.sub_new Hp.sub_refl (Hp.sub_none hb.1 n5))
    · obtain rfl : i = ts.length := by omega
      simp (dsimp := false) (implicitDefEqProofs := false) (maxSteps := 1000000) (disch := first | omega | assumption | (simp only [rL, Nat.reduceAdd]; done) | (simp only [rL, Nat.reduceAdd]; omega)) only [↓rD, rU, ev, ofConst, ofCell, ↓reduceIte, Nat.reduceEqDiff, Nat.reduceAdd, Nat.reduceSub, Nat.reduceMul, Nat.reduceLeDiff, Nat.reduceLT, Int.reduceNeg, Int.reduceToNat, Int.reduceAdd, Int.reduceSub, Int.reduceMul, Int.reduceLT, Int.reduceLE, Int.reduceEq, rX, List.drop_succ_cons, ↓rF, rG, ne_eq, not_true_eq_false, not_false_eq_true, Int.reduceNe, List.getElem?_cons_zero, List.getElem?_cons_succ, ↓rK, rM, f3, f6, f7, f8, hlt]
      rw [List.take_length] at hb
      refine call_intro (builderString_spec l _ s s' hb) ?_
      rintro _ s2 ⟨h2, rfl⟩
      simp (dsimp := false) (implicitDefEqProofs := false) (maxSteps := 1000000) (disch := first | omega | assumption | (simp only [rL, Nat.reduceAdd]; done) | (simp only [rL, Nat.reduceAdd]; omega)) only [↓rD, rU, ev, ofConst, ofCell, ↓reduceIte, Nat.reduceEqDiff, Nat.reduceAdd, Nat.reduceSub, Nat.reduceMul, Nat.reduceLeDiff, Nat.reduceLT, Int.reduceNeg, Int.reduceToNat, Int.reduceAdd, Int.reduceSub, Int.reduceMul, Int.reduceLT, Int.reduceLE, Int.reduceEq, rX, List.drop_succ_cons, ↓rF, rG, ne_eq, not_true_eq_false, not_false_eq_true, Int.reduceNe, List.getElem?_cons_zero, List.getElem?_cons_succ, ↓rK, rM]
      exact ⟨_, Hp.sub_refl, h2⟩
end Go.Proofs.YtpbicmjkjihhnaaDoor
