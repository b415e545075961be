/- Merged by program from smaller texts; what is proved stands in the last text of the claim. -/
import Derived.Test.YtnnjjmiahcnbaaaGreatMC
set_option linter.all false
/-
  Running abstract code, continued: slices that are built, sliced, read.
-/
namespace Go.Av
open Go
def allLen (k : Nat) (xs : List AV) : Prop := ∀ e ∈ xs, e.cells.length = k
theorem allLen_nil {k : Nat} : allLen k [] = True := by simp [allLen]
theorem allLen_cons {k : Nat} {a : AV} {r : List AV} : allLen k (a :: r) = (a.cells.length = k ∧ allLen k r) := by simp [allLen]
theorem allLen_append {k : Nat} {a r : List AV} : allLen k (a ++ r) = (allLen k a ∧ allLen k r) := by
  apply propext; simp only [allLen, List.mem_append]; constructor
  · exact fun h => ⟨fun e he => h e (.inl he), fun e he => h e (.inr he)⟩
  · rintro ⟨h1, h2⟩ e (he | he); exact h1 e he; exact h2 e he
theorem allLen_bytes {bs : List UInt8} : allLen 1 (bs.map byteAV) = True := by
  simp [allLen, byteAV, AV.cells]
theorem allLen_map {α : Type} {k : Nat} {g : α → AV} (h : ∀ x, (g x).cells.length = k) (l : List α) : allLen k (l.map g) = True := by
  simp [allLen, h]
theorem allLen_take {k n : Nat} {xs : List AV} (h : allLen k xs) : allLen k (xs.take n) := fun e he => h e (List.mem_of_mem_take he)
theorem allLen_drop {k n : Nat} {xs : List AV} (h : allLen k xs) : allLen k (xs.drop n) := fun e he => h e (List.mem_of_mem_drop he)
def Owned (s0 s : Hp) (k : Nat) (xs : List AV) (o : Own) : Prop :=
  s0.sub s ∧ match o with
    | .buf g c => s0 g = none ∧ s g = some (.buf k xs.length c)
    | .any => False
    | _ => xs = []
variable {P : Ctx} {f : Fr} {s s0 : Hp} {Kv : AV → Hp → Prop}
theorem Hp.sub_trans {a b c : Hp} (h : a.sub b) (h2 : b.sub c) : a.sub c := fun l o hl => h2 l o (h l o hl)
theorem Hp.sub_none {a b : Hp} (h : a.sub b) {l : Nat} (hl : b l = none) : a l = none := by
  cases ha : a l with
  | none => rfl
  | some o => rw [h l o ha] at hl; cases hl
theorem Owned.nil (h : s0.sub s) {k : Nat} : Owned s0 s k [] .nil := ⟨h, rfl⟩
theorem Owned.zero (h : s0.sub s) {k : Nat} : Owned s0 s k [] .zero := ⟨h, rfl⟩
theorem Owned.sub {k : Nat} {xs : List AV} {o : Own} (h : Owned s0 s k xs o) : s0.sub s := h.1
theorem Owned.base {s1 : Hp} {k : Nat} {xs : List AV} {o : Own} (h : Owned s0 s k xs o) (hs : s1.sub s0) : Owned s1 s k xs o := by
  refine ⟨Hp.sub_trans hs h.1, ?_⟩
  have h2 := h.2
  cases o with
  | buf g c => exact ⟨Hp.sub_none hs h2.1, h2.2⟩
  | _ => exact h2
theorem Owned.mono {s' : Hp} {k : Nat} {xs : List AV} {o : Own} (h : Owned s0 s k xs o) (hs : s.sub s') : Owned s0 s' k xs o := by
  refine ⟨Hp.sub_trans h.1 hs, ?_⟩
  have h2 := h.2
  cases o with
  | buf g c => exact ⟨h2.1, hs _ _ h2.2⟩
  | _ => exact h2
theorem Owned.set {k l : Nat} {xs : List AV} {o : Own} {ob ob' : Ob} (h : Owned s0 s k xs o) (hl : s0 l = some ob') : Owned (s0.set l ob) (s.set l ob) k xs o := by
  refine ⟨Hp.sub_set h.1, ?_⟩
  have h2 := h.2
  cases o with
  | buf g c =>
    have hne : g ≠ l := by rintro rfl; rw [h2.1] at hl; cases hl
    exact ⟨by rw [Hp.set_ne _ _ hne]; exact h2.1, by rw [Hp.set_ne _ _ hne]; exact h2.2⟩
  | _ => exact h2
theorem Owned.new {k l : Nat} {xs : List AV} {o : Own} {ob : Ob} (h : Owned s0 s k xs o) (hl : s l = none) : Owned (s0.set l ob) (s.set l ob) k xs o := by
  refine ⟨Hp.sub_set h.1, ?_⟩
  have h2 := h.2
  cases o with
  | buf g c =>
    have hne : g ≠ l := by rintro rfl; rw [h2.2] at hl; cases hl
    exact ⟨by rw [Hp.set_ne _ _ hne]; exact h2.1, by rw [Hp.set_ne _ _ hne]; exact h2.2⟩
  | _ => exact h2
def appK (k bytes : Nat) (s : Hp) (x y : AV) (C : AV → Hp → Prop) : Prop :=
  match x, y with
  | .sl xs o, .sl ys _ => (∀ e ∈ xs, e.cells.length = k) ∧ (∀ e ∈ ys, e.cells.length = k) ∧ (xs.length + ys.length) * bytes ≤ 140737488355328 ∧ xs.length + ys.length ≤ 9223372036854775807 ∧
      match o with
      | .buf g c => s g = some (.buf k xs.length c) ∧ ∀ g' c', (g' = g ∨ s g' = none) → C (.sl (xs ++ ys) (.buf g' c')) ((s.del g).set g' (.buf k (xs.length + ys.length) c'))
      | .any => False
      | _ => xs = [] ∧ (if ys = [] then C (.sl [] o) s else ∀ g' c', s g' = none → C (.sl ys (.buf g' c')) (s.set g' (.buf k ys.length c')))
  | _, _ => False
theorem G_app {k bytes : Nat} {x y : Operand} : G P (.app k bytes x y) f s Kv = appK k bytes s (ev f x) (ev f y) (hid2 Kv ()) := rfl
theorem app_own {k bytes : Nat} {xs ys : List AV} {o o2 : Own} {C : AV → Hp → Prop} {d : Dep C} (h : Owned s0 s k xs o) (h1 : allLen k xs) (h2 : allLen k ys) (h3 : (xs.length + ys.length) * bytes ≤ 140737488355328) (h4 : xs.length + ys.length ≤ 9223372036854775807)
    (hk : ∀ o' s', Owned s0 s' k (xs ++ ys) o' → C (.sl (xs ++ ys) o') s') : appK k bytes s (.sl xs o) (.sl ys o2) (hid2 C d) := by
  have ho := h.2
  refine ⟨h1, h2, h3, h4, ?_⟩
  cases o with
  | any => exact ho.elim
  | nil =>
    obtain rfl : xs = [] := ho
    refine ⟨rfl, ?_⟩
    split
    · rename_i hy; subst hy; exact hk _ _ ⟨h.1, rfl⟩
    · intro g' c' hg'
      refine hk _ _ ⟨Hp.sub_new h.1 (Hp.sub_none h.1 hg'), Hp.sub_none h.1 hg', ?_⟩
      rw [Hp.set_same]; simp
  | zero =>
    obtain rfl : xs = [] := ho
    refine ⟨rfl, ?_⟩
    split
    · rename_i hy; subst hy; exact hk _ _ ⟨h.1, rfl⟩
    · intro g' c' hg'
      refine hk _ _ ⟨Hp.sub_new h.1 (Hp.sub_none h.1 hg'), Hp.sub_none h.1 hg', ?_⟩
      rw [Hp.set_same]; simp
  | buf g c =>
    refine ⟨ho.2, fun g' c' hg' => hk _ _ ?_⟩
    have hb : s0 g' = none := by rcases hg' with rfl | hg'; exact ho.1; exact Hp.sub_none h.1 hg'
    refine ⟨Hp.sub_new (fun l ob hl => ?_) hb, hb, ?_⟩
    · have hne : l ≠ g := by rintro rfl; rw [ho.1] at hl; cases hl
      rw [Hp.del_ne _ hne]; exact h.1 l ob hl
    · rw [Hp.set_same, List.length_append]
def bslK (k : Nat) (s : Hp) (vs0 : List AV) (C : AV → Hp → Prop) : Prop :=
  (∀ e ∈ vs0, e.cells.length = k) ∧ (if vs0.length = 0 then C (.sl [] .zero) s else ∀ g, s g = none → C (.sl vs0 (.buf g vs0.length)) (s.set g (.buf k vs0.length vs0.length)))
theorem G_bsl {k : Nat} {xs : List Operand} : G P (.bsl k xs) f s Kv = bslK k s (xs.map (ev f)) (hid2 Kv ()) := by
  simp only [G, bslK, hid2, List.length_map]
theorem bsl_own {k : Nat} {vs0 : List AV} {C : AV → Hp → Prop} {d : Dep C} (h : s0.sub s) (h1 : allLen k vs0) (hk : ∀ o' s', Owned s0 s' k vs0 o' → C (.sl vs0 o') s') : bslK k s vs0 (hid2 C d) := by
  refine ⟨h1, ?_⟩
  split
  · rename_i h0
    obtain rfl := List.eq_nil_of_length_eq_zero h0
    exact hk _ _ ⟨h, rfl⟩
  · intro g hg
    exact hk _ _ ⟨Hp.sub_new h (Hp.sub_none h hg), Hp.sub_none h hg, by rw [Hp.set_same]⟩
def bO (x : Option AV) (d : Nat) : Option Int :=
  match x with
  | none => some d
  | some a => intOf a
def kp (o : Own) (lo hi : Option AV) : Own :=
  match lo, hi with
  | none, none => o
  | _, _ => .any
def slcAA (k : Nat) (a : AV) (lo hi : Option AV) : Option AV :=
  match a with
  | .sl xs o => match bO lo 0, bO hi xs.length with
    | some a, some b => if 0 ≤ a ∧ a ≤ b ∧ b ≤ xs.length ∧ xs.all (fun e => decide (e.cells.length = k)) then some (.sl ((xs.take b.toNat).drop a.toNat) (kp o lo hi)) else none
    | _, _ => none
  | .msl l off len k' => match bO lo 0, bO hi len with
    | some a, some b => if k' = k ∧ 0 ≤ a ∧ a ≤ b ∧ b ≤ len ∧ a < len then some (.msl l (off + a.toNat * k) (b.toNat - a.toNat) k) else none
    | _, _ => none
  | .mb l len cap k' => match bO lo 0, bO hi len with
    | some a, some b => if k' = k ∧ 0 ≤ a ∧ a ≤ b ∧ b ≤ len ∧ (lo.isSome = true → a < len) then some (mbCut lo.isSome l a.toNat b.toNat cap k) else none
    | _, _ => none
  | _ => none
theorem bnd_bO (x : Option Operand) (d : Nat) : bnd f x d = bO (x.map (ev f)) d := by
  cases x with
  | none => rfl
  | some x => simp only [bnd, bO, Option.map_some, intOf]; split <;> simp_all
theorem kp_map {o : Own} (lo hi : Option Operand) : SlKeep o lo hi = kp o (lo.map (ev f)) (hi.map (ev f)) := by cases lo <;> cases hi <;> rfl
theorem G_slcA {k : Nat} {x : Operand} {lo hi : Option Operand} : G P (.slc k x lo hi) f s Kv = valK (slcAA k (ev f x) (lo.map (ev f)) (hi.map (ev f))) (hid1 (fun r => Kv r s) ()) := by
  have e : lo.isSome = (lo.map (ev f)).isSome := by cases lo <;> rfl
  simp only [G, slcAA, bnd_bO, kp_map (f := f) lo hi, e]
  generalize ev f x = a; generalize lo.map (ev f) = p; generalize hi.map (ev f) = q
  cases a <;> try rfl
  · rename_i xs o
    simp only []
    generalize bO p 0 = u; generalize bO q xs.length = w
    cases u <;> cases w <;> try rfl
    simp only [valK_ite, hid1_eq, List.all_eq_true, decide_eq_true_eq]
    apply propext; constructor
    · rintro ⟨h1, h2, h3, h4, h5⟩; exact ⟨⟨h1, h2, h3, h4⟩, h5⟩
    · rintro ⟨⟨h1, h2, h3, h4⟩, h5⟩; exact ⟨h1, h2, h3, h4, h5⟩
  · rename_i l off len k'
    simp only []
    generalize bO p 0 = u; generalize bO q len = w
    cases u <;> cases w <;> try rfl
    simp only [valK_ite, hid1_eq]
    apply propext; constructor
    · rintro ⟨h0, h1, h2, h3, h4, h5⟩; exact ⟨⟨h0, h1, h2, h3, h4⟩, h5⟩
    · rintro ⟨⟨h0, h1, h2, h3, h4⟩, h5⟩; exact ⟨h0, h1, h2, h3, h4, h5⟩
  · rename_i l len cap k'
    simp only []
    generalize bO p 0 = u; generalize bO q len = w
    cases u <;> cases w <;> try rfl
    simp only [valK_ite, hid1_eq]
    apply propext; constructor
    · rintro ⟨h0, h1, h2, h3, h4, h5⟩; exact ⟨⟨h0, h1, h2, h3, h4⟩, h5⟩
    · rintro ⟨⟨h0, h1, h2, h3, h4⟩, h5⟩; exact ⟨h0, h1, h2, h3, h4, h5⟩
theorem slcAA_mb {k l len cap : Nat} {kd : IntKind} {b : Int} (h : 0 ≤ b) (h2 : b ≤ len) : slcAA k (.mb l len cap k) none (some (.v (.int kd b))) = some (.mb l b.toNat cap k) := by
  simp [slcAA, bO, intOf, h, h2, mbCut]
theorem slcAA_all {k : Nat} {xs : List AV} {o : Own} (h : allLen k xs) : slcAA k (.sl xs o) none none = some (.sl xs o) := by
  have : (xs.all fun e => decide (e.cells.length = k)) = true := by simpa [allLen] using h
  simp [slcAA, bO, kp, this]
theorem slcAA_lo {k : Nat} {xs : List AV} {o : Own} {kd : IntKind} {a : Int} (h : 0 ≤ a) (h2 : a ≤ xs.length) (h3 : allLen k xs) : slcAA k (.sl xs o) (some (.v (.int kd a))) none = some (.sl (xs.drop a.toNat) .any) := by
  have : (xs.all fun e => decide (e.cells.length = k)) = true := by simpa [allLen] using h3
  simp [slcAA, bO, kp, intOf, this, h, h2]
theorem slcAA_hi {k : Nat} {xs : List AV} {o : Own} {kd : IntKind} {b : Int} (h : 0 ≤ b) (h2 : b ≤ xs.length) (h3 : allLen k xs) : slcAA k (.sl xs o) none (some (.v (.int kd b))) = some (.sl (xs.take b.toNat) .any) := by
  have : (xs.all fun e => decide (e.cells.length = k)) = true := by simpa [allLen] using h3
  simp [slcAA, bO, kp, intOf, this, h, h2]
theorem slcAA_both {k : Nat} {xs : List AV} {o : Own} {kd kd' : IntKind} {a b : Int} (h : 0 ≤ a) (h1 : a ≤ b) (h2 : b ≤ xs.length) (h3 : allLen k xs) : slcAA k (.sl xs o) (some (.v (.int kd a))) (some (.v (.int kd' b))) = some (.sl ((xs.take b.toNat).drop a.toNat) .any) := by
  have : (xs.all fun e => decide (e.cells.length = k)) = true := by simpa [allLen] using h3
  simp [slcAA, bO, kp, intOf, this, h, h1, h2]
def eqvK (neg : Bool) (ks : List (Nat × CK)) (a b : AV) (C : AV → Prop) : Prop :=
  match a, b with
  | .agg cs, .agg ds => fitR ks cs ∧ fitR ks ds ∧ C (.v (.bool (xor neg (peq (.agg cs) (.agg ds)))))
  | _, _ => False
theorem G_eqvK {neg : Bool} {ks : List (Nat × CK)} {x y : Operand} : G P (.eqv neg ks x y) f s Kv = eqvK neg ks (ev f x) (ev f y) (hid1 (fun r => Kv r s) ()) := rfl
theorem eqvK_agg {neg : Bool} {ks : List (Nat × CK)} {cs ds : List AV} {C : AV → Prop} : eqvK neg ks (.agg cs) (.agg ds) C = andK (fitR ks cs ∧ fitR ks ds) (hidP (C (.v (.bool (xor neg (peq (.agg cs) (.agg ds)))))) ()) := by
  simp only [eqvK, andK, hidP]; exact propext and_assoc.symm
theorem mapb_drop {bs : List UInt8} {n : Nat} : (bs.map byteAV).drop n = (bs.drop n).map byteAV := by rw [List.map_drop]
theorem mapb_take {bs : List UInt8} {n : Nat} : (bs.map byteAV).take n = (bs.take n).map byteAV := by rw [List.map_take]
theorem mapb_app {bs cs : List UInt8} : bs.map byteAV ++ cs.map byteAV = (bs ++ cs).map byteAV := by rw [List.map_append]
theorem byte_fold {b : UInt8} : (.v (.int .u8 b.toNat) : AV) = byteAV b := rfl
theorem Owned.nilB (h : s0.sub s) : Owned s0 s 1 (([] : List UInt8).map byteAV) .nil := ⟨h, rfl⟩
theorem Owned.zeroB (h : s0.sub s) : Owned s0 s 1 (([] : List UInt8).map byteAV) .zero := ⟨h, rfl⟩
theorem app_bytes {xs ys : List UInt8} {o o2 : Own} {C : AV → Hp → Prop} {d : Dep C} (h : Owned s0 s 1 (xs.map byteAV) o) (h3 : xs.length + ys.length ≤ 140737488355328)
    (hk : ∀ o' s', Owned s0 s' 1 ((xs ++ ys).map byteAV) o' → C (.sl ((xs ++ ys).map byteAV) o') s') : appK 1 1 s (.sl (xs.map byteAV) o) (.sl (ys.map byteAV) o2) (hid2 C d) := by
  refine app_own h (by rw [allLen_bytes]; trivial) (by rw [allLen_bytes]; trivial) (by simp; omega) (by simp; omega) ?_
  rw [mapb_app]; exact hk
theorem app_byte1 {xs : List UInt8} {b : UInt8} {o o2 : Own} {C : AV → Hp → Prop} {d : Dep C} (h : Owned s0 s 1 (xs.map byteAV) o) (h3 : xs.length + 1 ≤ 140737488355328)
    (hk : ∀ o' s', Owned s0 s' 1 ((xs ++ [b]).map byteAV) o' → C (.sl ((xs ++ [b]).map byteAV) o') s') : appK 1 1 s (.sl (xs.map byteAV) o) (.sl [byteAV b] o2) (hid2 C d) :=
  app_bytes (ys := [b]) h h3 hk
theorem bsl_byte {b : UInt8} {C : AV → Hp → Prop} {d : Dep C} (h : s0.sub s) (hk : ∀ o' s', Owned s0 s' 1 [byteAV b] o' → C (.sl [byteAV b] o') s') : bslK 1 s [.v (.int .u8 b.toNat)] (hid2 C d) :=
  bsl_own (vs0 := [b].map byteAV) h (by rw [allLen_bytes]; trivial) hk
theorem getB {bs : List UInt8} {i : Nat} (h : i < bs.length) : (bs.map byteAV)[i]? = some (.v (.int .u8 (bs.getD i 0).toNat)) := by
  rw [List.getElem?_map, List.getElem?_eq_getElem h]
  have : bs.getD i 0 = bs[i] := by simp [List.getD, h]
  rw [this]; rfl
theorem runL_mono {Kf Kf' : Fr → Hp → Prop} (h : ∀ f s, Kf f s → Kf' f s) : ∀ (ops : List AOper) (f : Fr) (s : Hp), runL P ops Kf f s → runL P ops Kf' f s
  | [], f, s, hh => h f s hh
  | _ :: r, f, s, hh => T_mono (fun f s hh => runL_mono h r f s hh) hh
theorem can_mono {xs : Nat → AOper} {Kf Kf' : Fr → Hp → Prop} (h : ∀ f s, Kf f s → Kf' f s) : ∀ (l : List CO) (f : Fr) (s : Hp), can P xs Kf l f s → can P xs Kf' l f s
  | [], f, s, hh => h f s hh
  | _ :: r, f, s, hh => ⟨hh.1, T_mono (fun f s hh => ⟨hh.1, can_mono h r f s hh.2⟩) hh.2⟩
theorem awp_mono : ∀ (c : ACode) {K K' : Ex → Fr → Hp → Prop} (_ : ∀ e f s, K e f s → K' e f s) (f : Fr) (s : Hp), awp P c K f s → awp P c K' f s
  | .skip, _, _, h, f, s, hh => h _ f s hh
  | .ret, _, _, h, f, s, hh => h _ f s hh
  | .exit _, _, _, h, f, s, hh => h _ f s hh
  | .plain ops, _, _, h, f, s, hh => runL_mono (h _) ops f s hh
  | .draw _ l, _, _, h, f, s, hh => can_mono (h _) l f s hh
  | .seq a b, K, K', h, f, s, hh => awp_mono a (fun e f s hh => by
      cases e with
      | norm => exact awp_mono b h f s hh
      | exit i => exact h _ f s hh
      | ret => exact h _ f s hh) f s hh
  | .block i a, K, K', h, f, s, hh => awp_mono a (fun e f s hh => by
      cases e with
      | norm => exact h _ f s hh
      | exit j => simp only [blockK] at hh ⊢; split <;> (rename_i hj; simp only [hj, if_true, if_false] at hh; exact h _ f s hh)
      | ret => exact h _ f s hh) f s hh
  | .cond c a b, K, K', h, f, s, hh => by
      simp only [awp_cond, hidP_eq, condK] at hh ⊢
      split at hh
      · exact ⟨fun ht => awp_mono a h f s (hh.1 ht), fun ht => awp_mono b h f s (hh.2 ht)⟩
      · exact hh.elim
  | .loop a, K, K', h, f, s, hh => by
      obtain ⟨I, m, h0, hr⟩ := hh
      exact ⟨I, m, h0, fun f s hI => awp_mono a (fun e f s hh => by
        cases e with
        | norm => exact hh
        | exit i => exact h _ f s hh
        | ret => exact h _ f s hh) f s (hr f s hI)⟩
theorem cond_join {K : Ex → Fr → Hp → Prop} {a b c : ACode} {t : Bool} {d : Dep (awp P a (seqK (awp P c K) K) f s)} {d' : Dep (awp P b (seqK (awp P c K) K) f s)} (Q : Fr → Hp → Prop)
    (ht : t = true → awp P a (seqK Q K) f s) (hf : t = false → awp P b (seqK Q K) f s) (hQ : ∀ f s, Q f s → awp P c K f s) :
    condK (.v (.bool t)) (hidP (awp P a (seqK (awp P c K) K) f s) d) (hidP (awp P b (seqK (awp P c K) K) f s) d') := by
  have hm : ∀ e f s, seqK Q K e f s → seqK (awp P c K) K e f s := fun e f s h => by
    cases e with
    | norm => exact hQ f s h
    | exit i => exact h
    | ret => exact h
  exact ⟨fun h => awp_mono a hm f s (ht h), fun h => awp_mono b hm f s (hf h)⟩
def idxSA (a i : AV) : Option AV :=
  match a, i with
  | .v (.string t), .v (.int _ n) => if 0 ≤ n then (match t.data[n.toNat]? with | some b => some (.v (.int .u8 b.toNat)) | none => none) else none
  | _, _ => none
theorem G_idxS {x i : Operand} : G P (.idxS x i) f s Kv = valK (idxSA (ev f x) (ev f i)) (hid1 (fun r => Kv r s) ()) := by
  simp only [G, idxSA]; generalize ev f x = a; generalize ev f i = b
  cases a <;> first
    | rfl
    | (rename_i v; cases v <;> first
        | rfl
        | (cases b <;> first
            | rfl
            | (rename_i t w; cases w <;> first
                | rfl
                | (rename_i kd n; simp only []; by_cases h : 0 ≤ n
                   · simp only [h, true_and, if_true]; generalize t.data[n.toNat]? = c; cases c <;> rfl
                   · simp [h, valK]))))
def slcRA (k n : Nat) (s : Hp) (a : AV) : Option AV :=
  match a with
  | .ptr l off => match s l with
    | some (.ro cs) => if off + n * k ≤ cs.length then some (.sl (elemsOf k n (cs.drop off)) .any) else none
    | _ => none
  | _ => none
theorem G_slcR {k n : Nat} {x : Operand} : G P (.slcR k n x none none) f s Kv = valK (slcRA k n s (ev f x)) (hid1 (fun r => Kv r s) ()) := by
  simp only [G, slcRA, bnd]; generalize ev f x = a
  cases a <;> first
    | rfl
    | (rename_i l off; simp only []
       generalize s l = c
       cases c with
       | none => simp [valK]
       | some o => cases o with
         | ro cs => simp only [valK_ite, hid1_eq]; simp
         | _ => simp [valK])
theorem slcRA_one {n l : Nat} {cs : List AV} (h : s l = some (.ro cs)) (h2 : cs.length = n) : slcRA 1 n s (.ptr l 0) = some (.sl cs .any) := by
  simp [slcRA, h, h2, elemsOf, List.take_of_length_le]
theorem shl_i64 {a : Int} {k : IntKind} {n : Nat} (h : n < 64) : binV .shl (.int .i64 a) (.int k (n : Int)) = some (.int .i64 (IntKind.i64.wrap (a * 2 ^ n))) := by
  have e : min n IntKind.i64.bits = n := by simp [IntKind.bits]; omega
  simp only [binV, isShift, if_true, shiftInt, if_neg (show ¬ (n : Int) < 0 by omega), Int.toNat_natCast, e]
def tup2 (a b : Option AV) : Option AV :=
  match a, b with
  | some a, some b => some (.tup [a, b])
  | _, _ => none
theorem tup2_some {a b : AV} : tup2 (some a) (some b) = some (.tup [a, b]) := rfl
theorem resAll2 {p q : Nat × Option (Bool × Nat)} : resAll f s [p, q] = tup2 (resG f s p) (resG f s q) := by
  simp only [resAll, mapAll]; cases resG f s p <;> cases resG f s q <;> rfl
def tup3 (a b c : Option AV) : Option AV :=
  match a, b, c with
  | some a, some b, some c => some (.tup [a, b, c])
  | _, _, _ => none
theorem tup3_some {a b c : AV} : tup3 (some a) (some b) (some c) = some (.tup [a, b, c]) := rfl
theorem resAll3 {p q r : Nat × Option (Bool × Nat)} : resAll f s [p, q, r] = tup3 (resG f s p) (resG f s q) (resG f s r) := by
  simp only [resAll, mapAll]; cases resG f s p <;> cases resG f s q <;> cases resG f s r <;> rfl
theorem cast0 : ((0 : Nat) : Int) = 0 := rfl
theorem cast1 : ((1 : Nat) : Int) = 1 := rfl
theorem tmod_nat {m k : Nat} : ((m : Int).tmod (k : Int)) = ((m % k : Nat) : Int) := rfl
theorem tmod64 {m : Nat} : ((m : Int).tmod 64) = ((m % 64 : Nat) : Int) := tmod_nat (k := 64)
/-! bundles of the lemmas above, for 'simp' -/
def rD :=
  And.intro @awp_skip <|
  And.intro @awp_ret <|
  And.intro @awp_exit <|
  And.intro @awp_seq <|
  And.intro @awp_block <|
  And.intro @awp_plain <|
  And.intro @awp_draw <|
  And.intro @awp_cond <|
  And.intro @awp_loopK <|
  And.intro @hid1_eq <|
  And.intro @hid2_eq <|
  And.intro @seqK_norm <|
  And.intro @seqK_ret <|
  And.intro @seqK_exit <|
  And.intro @blockK_norm <|
  And.intro @blockK_ret <|
  And.intro @blockK_same <|
  And.intro @blockK_exit <|
  And.intro @runL_nil <|
  And.intro @runL_cons <|
  And.intro @runL_guard <|
  And.intro @can_nil <|
  And.intro @can_cons <|
  And.intro @can_pre <|
  And.intro @can_chk <|
  And.intro @chkL_nil <|
  And.intro @chkL_cons <|
  And.intro @Def_none <|
  And.intro @chkT_none <|
  And.intro @T_none <|
  And.intro @T_guard <|
  And.intro @nth_zero <|
  And.intro @nth_succ <|
  And.intro @G_mv <|
  And.intro @G_pick <|
  And.intro @G_alloc <|
  And.intro @G_box <|
  And.intro @G_boxR <|
  And.intro @G_load <|
  And.intro @G_store <|
  And.intro @G_nilc <|
  And.intro @G_fa <|
  And.intro @G_iaA <|
  And.intro @G_iaS <|
  And.intro @G_fld <|
  And.intro @G_idxA <|
  And.intro @G_bld <|
  And.intro @G_len <|
  And.intro @G_lenA <|
  And.intro @G_bin <|
  And.intro @G_un <|
  And.intro @G_cvt <|
  And.intro @G_callF <|
  And.intro @G_ext <|
  And.intro @G_app <|
  And.intro @G_bsl <|
  And.intro @G_slcA <|
  And.intro @G_idxS <|
  And.intro @G_slcR <|
  And.intro @G_eqvK <|
  And.intro @G_eqb <|
  And.intro @G_eqp <|
  And.intro @putF_get <|
  And.intro @putF_none <|
  And.intro @initF_get <|
  And.intro @bldK_nil <|
  And.intro @bldK_cons <|
  And.intro @postR_ret <|
  @postR_norm
def rU :=
  And.intro @condK_true <|
  And.intro @condK_false <|
  And.intro @guardK_tt <|
  And.intro @guardK_ff <|
  And.intro @guardK_tf <|
  And.intro @guardK_ft <|
  And.intro @guardK_no <|
  And.intro @newK_true <|
  And.intro @eq_self.{1} <|
  And.intro @tK_eq <|
  And.intro @List.getD_cons_zero.{0} <|
  And.intro @List.getD_cons_succ.{0} <|
  And.intro @eqvK_agg <|
  And.intro @Option.map_none.{0,0} <|
  And.intro @slcAA_all <|
  And.intro @slcAA_lo <|
  And.intro @slcAA_hi <|
  And.intro @slcAA_both <|
  And.intro @mapb_drop <|
  And.intro @mapb_take <|
  And.intro @valK_some <|
  And.intro @letK_eq <|
  And.intro @cellK_some <|
  And.intro @andK_true <|
  And.intro @andK_ok <|
  And.intro @pickA_true <|
  And.intro @pickA_false <|
  And.intro @loadA_ptr <|
  And.intro @loadA_rptr <|
  And.intro @rdA_some <|
  And.intro @storeK_ptr <|
  And.intro @nilcA_ptr <|
  And.intro @nilcA_rptr <|
  And.intro @faA_ptr <|
  And.intro @faA_rptr <|
  And.intro @iaAA_ptr <|
  And.intro @iaAA_rptr <|
  And.intro @iaSA_bytes <|
  And.intro @iaSA_msl <|
  And.intro @elA_some <|
  And.intro @fldA_agg <|
  And.intro @idxAA_agg <|
  And.intro @lenAA_sl <|
  And.intro @lenAA_msl <|
  And.intro @binA_v <|
  And.intro @unA_v <|
  And.intro @cvtA_int <|
  And.intro @extA_tup <|
  And.intro @eqbA_b <|
  And.intro @eqpA_ptr <|
  And.intro @eqpA_rptr <|
  And.intro @eqpA_nil <|
  And.intro @Option.map_some.{0,0} <|
  And.intro @resAll_one <|
  And.intro @resG_tmp <|
  And.intro @resAll_none <|
  And.intro @resG_ptr <|
  And.intro @resP_ptr <|
  And.intro @putAt_all <|
  And.intro @List.map_cons.{0,0} <|
  And.intro @List.map_nil.{0,0} <|
  And.intro @add_i64 <|
  And.intro @sub_i64 <|
  And.intro @mul_i64 <|
  And.intro @quo_i64 <|
  And.intro @rem_i64 <|
  And.intro @eql_int <|
  And.intro @neq_int <|
  And.intro @lss_int <|
  And.intro @leq_int <|
  And.intro @gtr_int <|
  And.intro @geq_int <|
  And.intro @not_bool <|
  And.intro @add_u32 <|
  And.intro @sub_u32 <|
  And.intro @mul_u32 <|
  And.intro @and_u32 <|
  And.intro @or_u32 <|
  And.intro @xor_u32 <|
  And.intro @com_u32 <|
  And.intro @shl_u32 <|
  And.intro @shr_u32 <|
  And.intro @wrap_i64 <|
  And.intro @wrap_u32_8 <|
  And.intro @wrap_u64_8 <|
  And.intro @wrap_u8_32 <|
  And.intro @wrap_u8_64 <|
  And.intro @add_u64 <|
  And.intro @sub_u64 <|
  And.intro @mul_u64 <|
  And.intro @shr_u64 <|
  And.intro @wrap_u64 <|
  And.intro @mkv_one <|
  And.intro @mkv_agg <|
  And.intro @List.length_map.{0,0} <|
  And.intro @List.length_cons.{0} <|
  And.intro @List.length_nil.{0} <|
  And.intro @Hp.read_set_same <|
  And.intro @Hp.read_set_ro <|
  And.intro @Hp.read_set_ne <|
  And.intro @Hp.stA_set_same <|
  And.intro @Hp.stA_set_ne <|
  And.intro @Hp.set_set <|
  And.intro @Hp.set_in1 <|
  And.intro @Hp.set_in2 <|
  And.intro @Hp.set_in3 <|
  And.intro @Hp.set_in4 <|
  And.intro @Hp.set_in5 <|
  And.intro @Hp.set_in6 <|
  And.intro @Hp.set_in7 <|
  And.intro @Hp.set_in8 <|
  And.intro @cells_sl <|
  And.intro @cells_v <|
  And.intro @cells_ptr <|
  And.intro @cells_rptr <|
  And.intro @cells_iface <|
  And.intro @cells_agg <|
  And.intro @List.drop_zero.{0} <|
  And.intro @and_self <|
  And.intro @Nat.zero_add <|
  And.intro @Nat.mul_one <|
  And.intro @Nat.one_mul <|
  And.intro @Int.toNat_natCast <|
  And.intro @true_and <|
  And.intro @and_true <|
  And.intro @Nat.add_zero <|
  And.intro @Nat.le_refl <|
  And.intro @dec_t <|
  @dec_f
def rX :=
  And.intro @cast0 <|
  And.intro @cast1 <|
  And.intro @resAll2 <|
  And.intro @tup2_some <|
  And.intro @resAll3 <|
  @tup3_some
def rL :=
  And.intro @List.length_cons.{0} <|
  And.intro @List.length_nil.{0} <|
  And.intro @List.length_map.{0,0} <|
  And.intro @List.length_append.{0} <|
  And.intro @List.length_replicate.{0} <|
  And.intro @List.length_range <|
  And.intro @List.length_take.{0} <|
  And.intro @List.length_drop.{0} <|
  And.intro @cells_sl <|
  And.intro @cells_v <|
  And.intro @cells_ptr <|
  And.intro @cells_rptr <|
  And.intro @cells_iface <|
  And.intro @cells_agg <|
  And.intro @allLen_bytes <|
  And.intro @allLen_nil <|
  And.intro @allLen_cons <|
  And.intro @allLen_append <|
  And.intro @and_true <|
  And.intro @true_and <|
  And.intro @Nat.zero_add <|
  And.intro @eq_self.{1} <|
  @and_self
end Go.Av
set_option maxRecDepth 100000
namespace Go.Proofs.YtnnjjmiahcnbaaaGreat
open Go Go.Av
def wv (x : UInt32) : AV := .v (.int .u32 x.toNat)
def rotl (x : UInt32) (n : Nat) : UInt32 := x <<< UInt32.ofNat n ||| x >>> UInt32.ofNat (32 - n)
theorem and31 (n : Nat) (h : 0 < n ∧ n < 32) : binV .and (.int .u64 (IntKind.u64.wrap (-((32 - n : Nat) : Int)))) (.int .u64 31) = some (.int .u64 n) := by
  have key : ∀ n : Fin 32, 0 < n.val → IntKind.u64.wrap (BitVec.ofInt IntKind.u64.bits (IntKind.u64.wrap (-((32 - n.val : Nat) : Int))) &&& BitVec.ofInt IntKind.u64.bits 31).toNat = (n.val : Int) := by decide
  have := key ⟨n, h.2⟩ h.1
  simp only [binV, isShift, binInt, this]; rfl
theorem rotl_spec (x : UInt32) (n : Nat) (h : 0 < n ∧ n < 32) (s : Hp) : AC Tryz.prog 110 [.v (.int .u32 x.toNat), .v (.int .i64 (-((32 - n : Nat) : Int)))] s fun r s' => s' = s ∧ r = .v (.int .u32 (rotl x n).toNat) := by
  refine AC_run hm prep110 (by simp) ?_
  simp (dsimp := false) (implicitDefEqProofs := false) (disch := first | omega | assumption | (simp only [rL, Nat.reduceAdd]; try omega)) only [↓rD, rU, ev, ofConst, ofCell, ↓reduceIte, Nat.reduceEqDiff, Nat.reduceAdd, Nat.reduceSub, Nat.reduceMul, Nat.reduceLeDiff, Nat.reduceLT, Int.reduceNeg, Int.reduceToNat, Int.reduceAdd, Int.reduceSub, Int.reduceMul, Int.reduceLT, Int.reduceLE, Int.reduceEq, and31 n h]
  refine ⟨s, Hp.sub_refl, rfl, ?_⟩
  have e : ((32 : Int) - (n : Int)).toNat = 32 - n := by omega
  rw [e]; simp [rotl]
theorem rotl_spec' (x : UInt32) (k : Int) (n : Nat) (h : 0 < n ∧ n < 32) (hk : k = -((32 - n : Nat) : Int)) (s : Hp) : AC Tryz.prog 110 [.v (.int .u32 x.toNat), .v (.int .i64 k)] s fun r s' => s' = s ∧ r = .v (.int .u32 (rotl x n).toNat) := by
  subst hk; exact rotl_spec x n h s
/-! the schedule -/
def word (bs : List UInt8) (i : Nat) : UInt32 := (bs.getD (4 * i) 0).toUInt32 <<< 24 ||| (bs.getD (4 * i + 1) 0).toUInt32 <<< 16 ||| (bs.getD (4 * i + 2) 0).toUInt32 <<< 8 ||| (bs.getD (4 * i + 3) 0).toUInt32
def sig0 (x : UInt32) : UInt32 := rotl x 25 ^^^ rotl x 14 ^^^ x >>> 3
def sig1 (x : UInt32) : UInt32 := rotl x 15 ^^^ rotl x 13 ^^^ x >>> 10
def more (w : List UInt32) : List UInt32 := w ++ [w.getD (w.length - 16) 0 + sig0 (w.getD (w.length - 15) 0) + w.getD (w.length - 7) 0 + sig1 (w.getD (w.length - 2) 0)]
def first (bs : List UInt8) (n : Nat) : List UInt32 := (List.range n).map (word bs)
def grow : Nat → List UInt32 → List UInt32
  | 0, w => w
  | n + 1, w => grow n (more w)
def sched (bs : List UInt8) : List UInt32 := grow 48 (first bs 16)
def cellsW (w : List UInt32) : List AV := w.map (fun x => .v (.int .u32 x.toNat)) ++ List.replicate (64 - w.length) (.v (.int .u32 0))
theorem cellsW_nil : cellsW [] = List.replicate 64 (.v (.int .u32 0)) := by simp [cellsW]
theorem cellsW_length {w : List UInt32} (h : w.length ≤ 64) : (cellsW w).length = 64 := by simp [cellsW]; omega
theorem cellsW_put {w : List UInt32} {i : Nat} (x : UInt32) (h : i = w.length) (h2 : w.length < 64) : putAt (cellsW w) i [.v (.int .u32 x.toNat)] = cellsW (w ++ [x]) := by
  subst h
  have e : 64 - w.length = (64 - (w.length + 1)) + 1 := by omega
  simp only [putAt, cellsW, e, List.replicate_succ]
  simp [List.take_append, List.drop_append]
theorem cellsW_at {w : List UInt32} {i : Nat} (h : i < w.length) : mkv false 1 ((cellsW w).drop i) = .v (.int .u32 (w.getD i 0).toNat) := by
  simp only [mkv, cellsW]
  rw [List.drop_append_of_le_length (by simp; omega), ← List.map_drop, List.drop_eq_getElem_cons h]
  simp [List.getD, h]
theorem sched_spec (bs : List UInt8) (o : Own) (h : bs.length = 64) (s : Hp) : AC Tryz.prog 108 [.sl (bs.map byteAV) o] s fun r s' => s' = s ∧ r = .agg ((sched bs).map fun x => .v (.int .u32 x.toNat)) := by
  refine AC_run hm prep108 (by simp) ?_
  simp (dsimp := false) (implicitDefEqProofs := false) (disch := first | omega | assumption | (simp only [rL, Nat.reduceAdd]; try omega)) only [↓rD, rU, ev, ofConst, ofCell, ↓reduceIte, Nat.reduceEqDiff, Nat.reduceAdd, Nat.reduceSub, Nat.reduceMul, Nat.reduceLeDiff, Nat.reduceLT, Int.reduceNeg, Int.reduceToNat, Int.reduceAdd, Int.reduceSub, Int.reduceMul, Int.reduceLT, Int.reduceLE, Int.reduceEq]
  refine newK_intro fun l2 h2 => ?_
  simp (dsimp := false) (implicitDefEqProofs := false) (disch := first | omega | assumption | (simp only [rL, Nat.reduceAdd]; try omega)) only [↓rD, rU, ev, ofConst, ofCell, ↓reduceIte, Nat.reduceEqDiff, Nat.reduceAdd, Nat.reduceSub, Nat.reduceMul, Nat.reduceLeDiff, Nat.reduceLT, Int.reduceNeg, Int.reduceToNat, Int.reduceAdd, Int.reduceSub, Int.reduceMul, Int.reduceLT, Int.reduceLE, Int.reduceEq]
  refine newK_intro fun l3 h3 => ?_
  obtain ⟨h23, h3⟩ := Hp.set_none h3
  simp (dsimp := false) (implicitDefEqProofs := false) (disch := first | omega | assumption | (simp only [rL, Nat.reduceAdd]; try omega)) only [↓rD, rU, ev, ofConst, ofCell, ↓reduceIte, Nat.reduceEqDiff, Nat.reduceAdd, Nat.reduceSub, Nat.reduceMul, Nat.reduceLeDiff, Nat.reduceLT, Int.reduceNeg, Int.reduceToNat, Int.reduceAdd, Int.reduceSub, Int.reduceMul, Int.reduceLT, Int.reduceLE, Int.reduceEq]
  refine loop_intro (fun f s' => ∃ i : Nat, i ≤ 16 ∧ f 0 = .sl (bs.map byteAV) o ∧ f 2 = .ptr l2 0 ∧ f 3 = .ptr l3 0 ∧ f 10 = .v (.int .i64 i) ∧ s' = (s.set l2 (.cells (List.replicate 64 (.v (.int .u32 0))))).set l3 (.cells (cellsW (first bs i))))
    (fun f _ => match f 10 with | .v (.int _ n) => (16 - n).toNat | _ => 0) ⟨0, by omega, ?_⟩ ?_
  · simp (dsimp := false) (implicitDefEqProofs := false) (disch := first | omega | assumption | (simp only [rL, Nat.reduceAdd]; try omega)) only [↓rD, rU, ev, ofConst, ofCell, ↓reduceIte, Nat.reduceEqDiff, Nat.reduceAdd, Nat.reduceSub, Nat.reduceMul, Nat.reduceLeDiff, Nat.reduceLT, Int.reduceNeg, Int.reduceToNat, Int.reduceAdd, Int.reduceSub, Int.reduceMul, Int.reduceLT, Int.reduceLE, Int.reduceEq, first, List.range_zero, cellsW_nil]
    simp
  · rintro f s' ⟨i, hi, f0, f2, f3, f10, rfl⟩
    have hlen : (first bs i).length = i := by simp [first]
    by_cases hlt : (i : Int) < 16
    · have hl : (cellsW (first bs i)).length = 64 := cellsW_length (by omega)
      have e0 : (4 * (i : Int)).toNat = 4 * i := by omega
      have e1 : (4 * (i : Int) + 1).toNat = 4 * i + 1 := by omega
      have e2 : (4 * (i : Int) + 2).toNat = 4 * i + 2 := by omega
      have e3 : (4 * (i : Int) + 3).toNat = 4 * i + 3 := by omega
      have hs : (i : Int).toNat + 1 ≤ 64 := by omega
      simp (dsimp := false) (implicitDefEqProofs := false) (disch := first | omega | assumption | (simp only [rL, Nat.reduceAdd]; try omega)) only [↓rD, rU, ev, ofConst, ofCell, ↓reduceIte, Nat.reduceEqDiff, Nat.reduceAdd, Nat.reduceSub, Nat.reduceMul, Nat.reduceLeDiff, Nat.reduceLT, Int.reduceNeg, Int.reduceToNat, Int.reduceAdd, Int.reduceSub, Int.reduceMul, Int.reduceLT, Int.reduceLE, Int.reduceEq, f0, f2, f3, f10, hlt, hl, h, e0, e1, e2, e3]
      rw [cellsW_put _ hlen.symm (by omega)]
      refine ⟨⟨i + 1, by omega, by simp, ?_⟩, by omega⟩
      simp only [first, List.range_succ, List.map_append, List.map_cons, List.map_nil]; rfl
    · obtain rfl : i = 16 := by omega
      simp (dsimp := false) (implicitDefEqProofs := false) (disch := first | omega | assumption | (simp only [rL, Nat.reduceAdd]; try omega)) only [↓rD, rU, ev, ofConst, ofCell, ↓reduceIte, Nat.reduceEqDiff, Nat.reduceAdd, Nat.reduceSub, Nat.reduceMul, Nat.reduceLeDiff, Nat.reduceLT, Int.reduceNeg, Int.reduceToNat, Int.reduceAdd, Int.reduceSub, Int.reduceMul, Int.reduceLT, Int.reduceLE, Int.reduceEq, f0, f2, f3, f10, hlt]
      refine loop_intro (fun f s' => ∃ (w : List UInt32) (i : Nat), i ≤ 48 ∧ w.length = 16 + i ∧ grow (48 - i) w = sched bs ∧ f 2 = .ptr l2 0 ∧ f 3 = .ptr l3 0 ∧ f 5 = .v (.int .i64 ((16 + i : Nat) : Int)) ∧ s' = (s.set l2 (.cells (List.replicate 64 (.v (.int .u32 0))))).set l3 (.cells (cellsW w)))
        (fun f _ => match f 5 with | .v (.int _ n) => (64 - n).toNat | _ => 0) ⟨first bs 16, 0, by omega, hlen, rfl, ?_⟩ ?_
      · simp (dsimp := false) (implicitDefEqProofs := false) (disch := first | omega | assumption | (simp only [rL, Nat.reduceAdd]; try omega)) only [↓rD, rU, ev, ofConst, ofCell, ↓reduceIte, Nat.reduceEqDiff, Nat.reduceAdd, Nat.reduceSub, Nat.reduceMul, Nat.reduceLeDiff, Nat.reduceLT, Int.reduceNeg, Int.reduceToNat, Int.reduceAdd, Int.reduceSub, Int.reduceMul, Int.reduceLT, Int.reduceLE, Int.reduceEq, f2, f3, grow]
        rfl
      · rintro f s' ⟨w, i, hi, hw, hg, f2, f3, f5, rfl⟩
        by_cases hlt : ((16 + i : Nat) : Int) < 64
        · have hl : (cellsW w).length = 64 := cellsW_length (by omega)
          have e1 : (((16 + i : Nat) : Int) - 15).toNat = i + 1 := by omega
          have e2 : (((16 + i : Nat) : Int) - 2).toNat = i + 14 := by omega
          have e3 : (((16 + i : Nat) : Int) - 16).toNat = i := by omega
          have e4 : (((16 + i : Nat) : Int) - 7).toNat = i + 9 := by omega
          simp (dsimp := false) (implicitDefEqProofs := false) (disch := first | omega | assumption | (simp only [rL, Nat.reduceAdd]; try omega)) only [↓rD, rU, ev, ofConst, ofCell, ↓reduceIte, Nat.reduceEqDiff, Nat.reduceAdd, Nat.reduceSub, Nat.reduceMul, Nat.reduceLeDiff, Nat.reduceLT, Int.reduceNeg, Int.reduceToNat, Int.reduceAdd, Int.reduceSub, Int.reduceMul, Int.reduceLT, Int.reduceLE, Int.reduceEq, f2, f3, f5, hlt, e1, e2, e3, e4, hl, cellsW_at]
          refine call_intro (rotl_spec' _ _ 25 (by decide) (by decide) _) ?_
          rintro _ _ ⟨rfl, rfl⟩
          simp (dsimp := false) (implicitDefEqProofs := false) (disch := first | omega | assumption | (simp only [rL, Nat.reduceAdd]; try omega)) only [↓rD, rU, ev, ofConst, ofCell, ↓reduceIte, Nat.reduceEqDiff, Nat.reduceAdd, Nat.reduceSub, Nat.reduceMul, Nat.reduceLeDiff, Nat.reduceLT, Int.reduceNeg, Int.reduceToNat, Int.reduceAdd, Int.reduceSub, Int.reduceMul, Int.reduceLT, Int.reduceLE, Int.reduceEq, f2, f3, f5, hlt, e1, e2, e3, e4, hl, cellsW_at]
          refine call_intro (rotl_spec' _ _ 14 (by decide) (by decide) _) ?_
          rintro _ _ ⟨rfl, rfl⟩
          simp (dsimp := false) (implicitDefEqProofs := false) (disch := first | omega | assumption | (simp only [rL, Nat.reduceAdd]; try omega)) only [↓rD, rU, ev, ofConst, ofCell, ↓reduceIte, Nat.reduceEqDiff, Nat.reduceAdd, Nat.reduceSub, Nat.reduceMul, Nat.reduceLeDiff, Nat.reduceLT, Int.reduceNeg, Int.reduceToNat, Int.reduceAdd, Int.reduceSub, Int.reduceMul, Int.reduceLT, Int.reduceLE, Int.reduceEq, f2, f3, f5, hlt, e1, e2, e3, e4, hl, cellsW_at]
          refine call_intro (rotl_spec' _ _ 15 (by decide) (by decide) _) ?_
          rintro _ _ ⟨rfl, rfl⟩
          simp (dsimp := false) (implicitDefEqProofs := false) (disch := first | omega | assumption | (simp only [rL, Nat.reduceAdd]; try omega)) only [↓rD, rU, ev, ofConst, ofCell, ↓reduceIte, Nat.reduceEqDiff, Nat.reduceAdd, Nat.reduceSub, Nat.reduceMul, Nat.reduceLeDiff, Nat.reduceLT, Int.reduceNeg, Int.reduceToNat, Int.reduceAdd, Int.reduceSub, Int.reduceMul, Int.reduceLT, Int.reduceLE, Int.reduceEq, f2, f3, f5, hlt, e1, e2, e3, e4, hl, cellsW_at]
          refine call_intro (rotl_spec' _ _ 13 (by decide) (by decide) _) ?_
          rintro _ _ ⟨rfl, rfl⟩
          simp (dsimp := false) (implicitDefEqProofs := false) (disch := first | omega | assumption | (simp only [rL, Nat.reduceAdd]; try omega)) only [↓rD, rU, ev, ofConst, ofCell, ↓reduceIte, Nat.reduceEqDiff, Nat.reduceAdd, Nat.reduceSub, Nat.reduceMul, Nat.reduceLeDiff, Nat.reduceLT, Int.reduceNeg, Int.reduceToNat, Int.reduceAdd, Int.reduceSub, Int.reduceMul, Int.reduceLT, Int.reduceLE, Int.reduceEq, f2, f3, f5, hlt, e1, e2, e3, e4, hl, cellsW_at]
          rw [cellsW_put _ hw.symm (by omega)]
          refine ⟨⟨_, i + 1, by omega, by simp [hw]; omega, ?_, ?_, rfl⟩, by omega⟩
          · rw [← hg, show 48 - i = (48 - (i + 1)) + 1 by omega, grow, more, hw]
            rw [show 16 + i - 16 = i by omega, show 16 + i - 15 = i + 1 by omega, show 16 + i - 7 = i + 9 by omega, show 16 + i - 2 = i + 14 by omega]
            rfl
          · simp; omega
        · obtain rfl : i = 48 := by omega
          have hl : (cellsW w).length = 64 := cellsW_length (by omega)
          have ht : (cellsW w).take 64 = w.map fun x => .v (.int .u32 x.toNat) := by
            have : cellsW w = w.map fun x => .v (.int .u32 x.toNat) := by simp [cellsW, hw]
            rw [this]; exact List.take_of_length_le (by simp [hw])
          have hw' : w = sched bs := hg
          simp (dsimp := false) (implicitDefEqProofs := false) (disch := first | omega | assumption | (simp only [rL, Nat.reduceAdd]; try omega)) only [↓rD, rU, ev, ofConst, ofCell, ↓reduceIte, Nat.reduceEqDiff, Nat.reduceAdd, Nat.reduceSub, Nat.reduceMul, Nat.reduceLeDiff, Nat.reduceLT, Int.reduceNeg, Int.reduceToNat, Int.reduceAdd, Int.reduceSub, Int.reduceMul, Int.reduceLT, Int.reduceLE, Int.reduceEq, f2, f3, f5, hlt, hl, ht, hw]
          exact ⟨s, Hp.sub_new (Hp.sub_new Hp.sub_refl h2) h3, rfl, by rw [List.take_of_length_le (by simp [hw]), hw']⟩
end Go.Proofs.YtnnjjmiahcnbaaaGreat
set_option maxRecDepth 100000
namespace Go.Proofs.YtnnjjmiahcnbaaaGreat
open Go Go.Av
def wl (w : List UInt32) : List AV := w.map fun x => .v (.int .u32 x.toNat)
theorem wl_length {w : List UInt32} : (wl w).length = w.length := by simp [wl]
theorem wl_at {w : List UInt32} {i : Nat} (h : i < w.length) : mkv false 1 ((wl w).drop i) = .v (.int .u32 (w.getD i 0).toNat) := by
  simp only [mkv, wl]
  rw [← List.map_drop, List.drop_eq_getElem_cons h]
  simp [List.getD, h]
theorem wl_at0 {w : List UInt32} (h : 0 < w.length) : mkv false 1 (wl w) = .v (.int .u32 (w.getD 0 0).toNat) := wl_at (i := 0) h
theorem wl_put {w : List UInt32} {i : Nat} (x : UInt32) (h : i < w.length) : putAt (wl w) i [.v (.int .u32 x.toNat)] = wl (w.set i x) := by
  simp only [putAt, wl, List.length_cons, List.length_nil, ← List.map_take, ← List.map_drop]
  rw [List.set_eq_take_append_cons_drop, if_pos h]; simp
def K256 : List UInt32 := [
  0x428a2f98, 0x71374491, 0xb5c0fbcf, 0xe9b5dba5, 0x3956c25b, 0x59f111f1, 0x923f82a4, 0xab1c5ed5,
  0xd807aa98, 0x12835b01, 0x243185be, 0x550c7dc3, 0x72be5d74, 0x80deb1fe, 0x9bdc06a7, 0xc19bf174,
  0xe49b69c1, 0xefbe4786, 0x0fc19dc6, 0x240ca1cc, 0x2de92c6f, 0x4a7484aa, 0x5cb0a9dc, 0x76f988da,
  0x983e5152, 0xa831c66d, 0xb00327c8, 0xbf597fc7, 0xc6e00bf3, 0xd5a79147, 0x06ca6351, 0x14292967,
  0x27b70a85, 0x2e1b2138, 0x4d2c6dfc, 0x53380d13, 0x650a7354, 0x766a0abb, 0x81c2c92e, 0x92722c85,
  0xa2bfe8a1, 0xa81a664b, 0xc24b8b70, 0xc76c51a3, 0xd192e819, 0xd6990624, 0xf40e3585, 0x106aa070,
  0x19a4c116, 0x1e376c08, 0x2748774c, 0x34b0bcb5, 0x391c0cb3, 0x4ed8aa4a, 0x5b9cca4f, 0x682e6ff3,
  0x748f82ee, 0x78a5636f, 0x84c87814, 0x8cc70208, 0x90befffa, 0xa4506ceb, 0xbef9a3f7, 0xc67178f2]
def H256 : List UInt32 := [0x6a09e667, 0xbb67ae85, 0x3c6ef372, 0xa54ff53a, 0x510e527f, 0x9b05688c, 0x1f83d9ab, 0x5be0cd19]
theorem bldK_all {f : Fr} {C : List AV → Prop} : ∀ (parts : List (Nat × Nat × Operand)) (cells out : List AV), (∀ (g : Nat), parts.map (fun p => ev f p.2.2) = out → True) → True := fun _ _ _ _ => trivial
theorem begin_spec (s : Hp) : AC Tryz.prog 73 [] s fun r s' => s' = s ∧ r = .agg (wl H256) := by
  refine AC_run hm prep73 (by simp) ?_
  simp (dsimp := false) (implicitDefEqProofs := false) (disch := first | omega | assumption | (simp only [rL, Nat.reduceAdd]; try omega)) only [↓rD, rU, ev, ofConst, ofCell, ↓reduceIte, Nat.reduceEqDiff, Nat.reduceAdd, Nat.reduceSub, Nat.reduceMul, Nat.reduceLeDiff, Nat.reduceLT, Int.reduceNeg, Int.reduceToNat, Int.reduceAdd, Int.reduceSub, Int.reduceMul, Int.reduceLT, Int.reduceLE, Int.reduceEq]
  refine newK_intro fun l h => ?_
  simp (dsimp := false) (implicitDefEqProofs := false) (disch := first | omega | assumption | (simp only [rL, Nat.reduceAdd]; try omega)) only [↓rD, rU, ev, ofConst, ofCell, ↓reduceIte, Nat.reduceEqDiff, Nat.reduceAdd, Nat.reduceSub, Nat.reduceMul, Nat.reduceLeDiff, Nat.reduceLT, Int.reduceNeg, Int.reduceToNat, Int.reduceAdd, Int.reduceSub, Int.reduceMul, Int.reduceLT, Int.reduceLE, Int.reduceEq, putAt, List.take, List.drop, List.replicate, List.cons_append, List.nil_append]
  exact ⟨s, Hp.sub_new Hp.sub_refl h, rfl, rfl⟩
theorem rounds_spec (s : Hp) : AC Tryz.prog 109 [] s fun r s' => s' = s ∧ r = .agg (wl K256) := by
  refine AC_run hm prep109 (by simp) ?_
  simp (dsimp := false) (implicitDefEqProofs := false) (disch := first | omega | assumption | (simp only [rL, Nat.reduceAdd]; try omega)) only [↓rD, rU, ev, ofConst, ofCell, ↓reduceIte, Nat.reduceEqDiff, Nat.reduceAdd, Nat.reduceSub, Nat.reduceMul, Nat.reduceLeDiff, Nat.reduceLT, Int.reduceNeg, Int.reduceToNat, Int.reduceAdd, Int.reduceSub, Int.reduceMul, Int.reduceLT, Int.reduceLE, Int.reduceEq]
  refine newK_intro fun l h => ?_
  simp (dsimp := false) (implicitDefEqProofs := false) (disch := first | omega | assumption | (simp only [rL, Nat.reduceAdd]; try omega)) only [↓rD, rU, ev, ofConst, ofCell, ↓reduceIte, Nat.reduceEqDiff, Nat.reduceAdd, Nat.reduceSub, Nat.reduceMul, Nat.reduceLeDiff, Nat.reduceLT, Int.reduceNeg, Int.reduceToNat, Int.reduceAdd, Int.reduceSub, Int.reduceMul, Int.reduceLT, Int.reduceLE, Int.reduceEq, putAt, List.take, List.drop, List.replicate, List.cons_append, List.nil_append]
  exact ⟨s, Hp.sub_new Hp.sub_refl h, rfl, rfl⟩
end Go.Proofs.YtnnjjmiahcnbaaaGreat
set_option maxRecDepth 100000
namespace Go.Proofs.YtnnjjmiahcnbaaaGreat
open Go Go.Av
def rnd (k w : UInt32) : List UInt32 → List UInt32
  | [a, b, c, d, e, f, g, h] =>
    let one := h + (rotl e 26 ^^^ rotl e 21 ^^^ rotl e 7) + (e &&& f ^^^ ~~~e &&& g) + k + w
    let two := (rotl a 30 ^^^ rotl a 19 ^^^ rotl a 10) + (a &&& b ^^^ a &&& c ^^^ b &&& c)
    [one + two, a, b, c, d + one, e, f, g]
  | l => l
def goR : List UInt32 → List UInt32 → List UInt32 → List UInt32
  | k :: ks, w :: ws, v => goR ks ws (rnd k w v)
  | _, _, v => v
def comp (h : List UInt32) (bs : List UInt8) : List UInt32 := List.zipWith (· + ·) (goR K256 (sched bs) h) h
def addTo (i : Nat) (v h : List UInt32) : List UInt32 := List.zipWith (· + ·) (v.take i) (h.take i) ++ v.drop i
theorem grow_length : ∀ (n : Nat) (w : List UInt32), (grow n w).length = w.length + n
  | 0, w => rfl
  | n + 1, w => by rw [grow, grow_length n, more]; simp; omega
theorem sched_length (bs : List UInt8) : (sched bs).length = 64 := by simp [sched, grow_length, first]
theorem sched_spec' (bs : List UInt8) (o : Own) (h : bs.length = 64) (s : Hp) : AC Tryz.prog 108 [.sl (bs.map byteAV) o] s fun r s' => s' = s ∧ r = .agg (wl (sched bs)) := sched_spec bs o h s
theorem addTo_put (v h : List UInt32) (hv : v.length = 8) (hh : h.length = 8) (i : Nat) (hi : i < 8) :
    (addTo i v h).length = 8 ∧ (addTo i v h).set i ((addTo i v h).getD i 0 + h.getD i 0) = addTo (i + 1) v h := by
  match v, hv, h, hh with
  | [a, b, c, d, e, f, g, k], _, [p, q, r, t, u, w, x, y], _ =>
    rcases (by omega : i = 0 ∨ i = 1 ∨ i = 2 ∨ i = 3 ∨ i = 4 ∨ i = 5 ∨ i = 6 ∨ i = 7) with rfl | rfl | rfl | rfl | rfl | rfl | rfl | rfl <;> exact ⟨rfl, rfl⟩
theorem rnd_length (k w : UInt32) (v : List UInt32) (h : v.length = 8) : (rnd k w v).length = 8 := by
  match v, h with
  | [a, b, c, d, e, f, g, k], _ => rfl
theorem goR_length : ∀ (ks ws v : List UInt32), v.length = 8 → (goR ks ws v).length = 8
  | [], _, v, h => by simpa [goR] using h
  | _ :: _, [], v, h => by simpa [goR] using h
  | k :: ks, w :: ws, v, h => by rw [goR]; exact goR_length ks ws _ (rnd_length k w v h)
theorem goR_drop (ks ws v : List UInt32) (i : Nat) (h : i < ks.length) (h2 : i < ws.length) : goR (ks.drop i) (ws.drop i) v = goR (ks.drop (i + 1)) (ws.drop (i + 1)) (rnd (ks.getD i 0) (ws.getD i 0) v) := by
  rw [List.drop_eq_getElem_cons h, List.drop_eq_getElem_cons h2, goR]; simp [List.getD, h, h2]
theorem turn_aux (h K S : List UInt32) (bs : List UInt8) (o : Own) (hh : h.length = 8) (hK64 : K.length = 64) (hS64 : S.length = 64)
    (hrs : ∀ s, AC Tryz.prog 109 [] s fun r s' => s' = s ∧ r = .agg (wl K))
    (hss : ∀ s, AC Tryz.prog 108 [.sl (bs.map byteAV) o] s fun r s' => s' = s ∧ r = .agg (wl S)) (s : Hp) :
    AC Tryz.prog 74 [.agg (wl h), .sl (bs.map byteAV) o] s fun r s' => s' = s ∧ r = .agg (wl (List.zipWith (· + ·) (goR K S h) h)) := by
  refine AC_run hm prep74 (by simp) ?_
  have hwl : (wl h).length = 8 := by rw [wl_length, hh]
  have hKl : (wl K).length = 64 := by rw [wl_length, hK64]
  have hSl : (wl S).length = 64 := by rw [wl_length, hS64]
  simp (dsimp := false) (implicitDefEqProofs := false) (disch := first | omega | assumption | (simp only [rL, Nat.reduceAdd]; try omega)) only [↓rD, rU, ev, ofConst, ofCell, ↓reduceIte, Nat.reduceEqDiff, Nat.reduceAdd, Nat.reduceSub, Nat.reduceMul, Nat.reduceLeDiff, Nat.reduceLT, Int.reduceNeg, Int.reduceToNat, Int.reduceAdd, Int.reduceSub, Int.reduceMul, Int.reduceLT, Int.reduceLE, Int.reduceEq, hwl]
  refine newK_intro fun l2 n2 => ?_
  simp (dsimp := false) (implicitDefEqProofs := false) (disch := first | omega | assumption | (simp only [rL, Nat.reduceAdd]; try omega)) only [↓rD, rU, ev, ofConst, ofCell, ↓reduceIte, Nat.reduceEqDiff, Nat.reduceAdd, Nat.reduceSub, Nat.reduceMul, Nat.reduceLeDiff, Nat.reduceLT, Int.reduceNeg, Int.reduceToNat, Int.reduceAdd, Int.reduceSub, Int.reduceMul, Int.reduceLT, Int.reduceLE, Int.reduceEq, hwl]
  refine newK_intro fun l4 n4 => ?_
  obtain ⟨d42, n4⟩ := Hp.set_none n4
  simp (dsimp := false) (implicitDefEqProofs := false) (disch := first | omega | assumption | (simp only [rL, Nat.reduceAdd]; try omega)) only [↓rD, rU, ev, ofConst, ofCell, ↓reduceIte, Nat.reduceEqDiff, Nat.reduceAdd, Nat.reduceSub, Nat.reduceMul, Nat.reduceLeDiff, Nat.reduceLT, Int.reduceNeg, Int.reduceToNat, Int.reduceAdd, Int.reduceSub, Int.reduceMul, Int.reduceLT, Int.reduceLE, Int.reduceEq, hwl]
  refine call_intro (hss _) ?_
  rintro _ _ ⟨rfl, rfl⟩
  simp (dsimp := false) (implicitDefEqProofs := false) (disch := first | omega | assumption | (simp only [rL, Nat.reduceAdd]; try omega)) only [↓rD, rU, ev, ofConst, ofCell, ↓reduceIte, Nat.reduceEqDiff, Nat.reduceAdd, Nat.reduceSub, Nat.reduceMul, Nat.reduceLeDiff, Nat.reduceLT, Int.reduceNeg, Int.reduceToNat, Int.reduceAdd, Int.reduceSub, Int.reduceMul, Int.reduceLT, Int.reduceLE, Int.reduceEq, hwl]
  refine call_intro (hrs _) ?_
  rintro _ _ ⟨rfl, rfl⟩
  simp (dsimp := false) (implicitDefEqProofs := false) (disch := first | omega | assumption | (simp only [rL, Nat.reduceAdd]; try omega)) only [↓rD, rU, ev, ofConst, ofCell, ↓reduceIte, Nat.reduceEqDiff, Nat.reduceAdd, Nat.reduceSub, Nat.reduceMul, Nat.reduceLeDiff, Nat.reduceLT, Int.reduceNeg, Int.reduceToNat, Int.reduceAdd, Int.reduceSub, Int.reduceMul, Int.reduceLT, Int.reduceLE, Int.reduceEq, hwl]
  refine newK_intro fun l5 n5 => ?_
  obtain ⟨d54, n5⟩ := Hp.set_none n5
  obtain ⟨d52, n5⟩ := Hp.set_none n5
  simp (dsimp := false) (implicitDefEqProofs := false) (disch := first | omega | assumption | (simp only [rL, Nat.reduceAdd]; try omega)) only [↓rD, rU, ev, ofConst, ofCell, ↓reduceIte, Nat.reduceEqDiff, Nat.reduceAdd, Nat.reduceSub, Nat.reduceMul, Nat.reduceLeDiff, Nat.reduceLT, Int.reduceNeg, Int.reduceToNat, Int.reduceAdd, Int.reduceSub, Int.reduceMul, Int.reduceLT, Int.reduceLE, Int.reduceEq, hwl]
  refine newK_intro fun l6 n6 => ?_
  obtain ⟨d65, n6⟩ := Hp.set_none n6
  obtain ⟨d64, n6⟩ := Hp.set_none n6
  obtain ⟨d62, n6⟩ := Hp.set_none n6
  simp (dsimp := false) (implicitDefEqProofs := false) (disch := first | omega | assumption | (simp only [rL, Nat.reduceAdd]; try omega)) only [↓rD, rU, ev, ofConst, ofCell, ↓reduceIte, Nat.reduceEqDiff, Nat.reduceAdd, Nat.reduceSub, Nat.reduceMul, Nat.reduceLeDiff, Nat.reduceLT, Int.reduceNeg, Int.reduceToNat, Int.reduceAdd, Int.reduceSub, Int.reduceMul, Int.reduceLT, Int.reduceLE, Int.reduceEq, hwl]
  refine newK_intro fun l7 n7 => ?_
  obtain ⟨d76, n7⟩ := Hp.set_none n7
  obtain ⟨d75, n7⟩ := Hp.set_none n7
  obtain ⟨d74, n7⟩ := Hp.set_none n7
  obtain ⟨d72, n7⟩ := Hp.set_none n7
  simp (dsimp := false) (implicitDefEqProofs := false) (disch := first | omega | assumption | (simp only [rL, Nat.reduceAdd]; try omega)) only [↓rD, rU, ev, ofConst, ofCell, ↓reduceIte, Nat.reduceEqDiff, Nat.reduceAdd, Nat.reduceSub, Nat.reduceMul, Nat.reduceLeDiff, Nat.reduceLT, Int.reduceNeg, Int.reduceToNat, Int.reduceAdd, Int.reduceSub, Int.reduceMul, Int.reduceLT, Int.reduceLE, Int.reduceEq, hwl, hKl, hSl, List.take_of_length_le]
  refine loop_intro (fun f s' => ∃ (i : Nat) (v : List UInt32), i ≤ 64 ∧ v.length = 8 ∧ goR (K.drop i) (S.drop i) v = goR K S h ∧ f 2 = .ptr l2 0 ∧ f 4 = .ptr l4 0 ∧ f 5 = .ptr l5 0 ∧ f 6 = .ptr l6 0 ∧ f 7 = .ptr l7 0 ∧ f 18 = .v (.int .i64 i) ∧
      s' = (((((s.set l2 (.cells (wl h))).set l4 (.cells (List.replicate 8 (.v (.int .u32 0))))).set l5 (.cells (wl S))).set l6 (.cells (wl K))).set l7 (.cells (wl v))))
    (fun f _ => match f 18 with | .v (.int _ n) => (64 - n).toNat | _ => 0) ⟨0, h, by omega, hh, rfl, ?_⟩ ?_
  · simp (dsimp := false) (implicitDefEqProofs := false) (disch := first | omega | assumption | (simp only [rL, Nat.reduceAdd]; try omega)) only [↓rD, rU, ev, ofConst, ofCell, ↓reduceIte, Nat.reduceEqDiff, Nat.reduceAdd, Nat.reduceSub, Nat.reduceMul, Nat.reduceLeDiff, Nat.reduceLT, Int.reduceNeg, Int.reduceToNat, Int.reduceAdd, Int.reduceSub, Int.reduceMul, Int.reduceLT, Int.reduceLE, Int.reduceEq]
    trivial
  · rintro f s' ⟨i, v, hi, hv, hg, f2, f4, f5, f6, f7, f18, rfl⟩
    have hvl : (wl v).length = 8 := by rw [wl_length, hv]
    by_cases hlt : (i : Int) < 64
    · obtain ⟨a, b, c, d, e, f', g, k', rfl⟩ : ∃ a b c d e f' g k', v = [a, b, c, d, e, f', g, k'] := by
        match v, hv with
        | [a, b, c, d, e, f', g, k'], _ => exact ⟨a, b, c, d, e, f', g, k', rfl⟩
      simp (dsimp := false) (implicitDefEqProofs := false) (disch := first | omega | assumption | (simp only [rL, Nat.reduceAdd]; try omega)) only [↓rD, rU, ev, ofConst, ofCell, ↓reduceIte, Nat.reduceEqDiff, Nat.reduceAdd, Nat.reduceSub, Nat.reduceMul, Nat.reduceLeDiff, Nat.reduceLT, Int.reduceNeg, Int.reduceToNat, Int.reduceAdd, Int.reduceSub, Int.reduceMul, Int.reduceLT, Int.reduceLE, Int.reduceEq, f2, f4, f5, f6, f7, f18, hlt, hvl, hKl, hSl, wl_at, wl_at0, List.getD_cons_zero, List.getD_cons_succ]
      refine call_intro (rotl_spec' _ _ 26 (by decide) (by decide) _) ?_
      rintro _ _ ⟨rfl, rfl⟩
      simp (dsimp := false) (implicitDefEqProofs := false) (disch := first | omega | assumption | (simp only [rL, Nat.reduceAdd]; try omega)) only [↓rD, rU, ev, ofConst, ofCell, ↓reduceIte, Nat.reduceEqDiff, Nat.reduceAdd, Nat.reduceSub, Nat.reduceMul, Nat.reduceLeDiff, Nat.reduceLT, Int.reduceNeg, Int.reduceToNat, Int.reduceAdd, Int.reduceSub, Int.reduceMul, Int.reduceLT, Int.reduceLE, Int.reduceEq, f2, f4, f5, f6, f7, f18, hlt, hvl, hKl, hSl, wl_at, wl_at0, List.getD_cons_zero, List.getD_cons_succ]
      refine call_intro (rotl_spec' _ _ 21 (by decide) (by decide) _) ?_
      rintro _ _ ⟨rfl, rfl⟩
      simp (dsimp := false) (implicitDefEqProofs := false) (disch := first | omega | assumption | (simp only [rL, Nat.reduceAdd]; try omega)) only [↓rD, rU, ev, ofConst, ofCell, ↓reduceIte, Nat.reduceEqDiff, Nat.reduceAdd, Nat.reduceSub, Nat.reduceMul, Nat.reduceLeDiff, Nat.reduceLT, Int.reduceNeg, Int.reduceToNat, Int.reduceAdd, Int.reduceSub, Int.reduceMul, Int.reduceLT, Int.reduceLE, Int.reduceEq, f2, f4, f5, f6, f7, f18, hlt, hvl, hKl, hSl, wl_at, wl_at0, List.getD_cons_zero, List.getD_cons_succ]
      refine call_intro (rotl_spec' _ _ 7 (by decide) (by decide) _) ?_
      rintro _ _ ⟨rfl, rfl⟩
      simp (dsimp := false) (implicitDefEqProofs := false) (disch := first | omega | assumption | (simp only [rL, Nat.reduceAdd]; try omega)) only [↓rD, rU, ev, ofConst, ofCell, ↓reduceIte, Nat.reduceEqDiff, Nat.reduceAdd, Nat.reduceSub, Nat.reduceMul, Nat.reduceLeDiff, Nat.reduceLT, Int.reduceNeg, Int.reduceToNat, Int.reduceAdd, Int.reduceSub, Int.reduceMul, Int.reduceLT, Int.reduceLE, Int.reduceEq, f2, f4, f5, f6, f7, f18, hlt, hvl, hKl, hSl, wl_at, wl_at0, List.getD_cons_zero, List.getD_cons_succ]
      refine call_intro (rotl_spec' _ _ 30 (by decide) (by decide) _) ?_
      rintro _ _ ⟨rfl, rfl⟩
      simp (dsimp := false) (implicitDefEqProofs := false) (disch := first | omega | assumption | (simp only [rL, Nat.reduceAdd]; try omega)) only [↓rD, rU, ev, ofConst, ofCell, ↓reduceIte, Nat.reduceEqDiff, Nat.reduceAdd, Nat.reduceSub, Nat.reduceMul, Nat.reduceLeDiff, Nat.reduceLT, Int.reduceNeg, Int.reduceToNat, Int.reduceAdd, Int.reduceSub, Int.reduceMul, Int.reduceLT, Int.reduceLE, Int.reduceEq, f2, f4, f5, f6, f7, f18, hlt, hvl, hKl, hSl, wl_at, wl_at0, List.getD_cons_zero, List.getD_cons_succ]
      refine call_intro (rotl_spec' _ _ 19 (by decide) (by decide) _) ?_
      rintro _ _ ⟨rfl, rfl⟩
      simp (dsimp := false) (implicitDefEqProofs := false) (disch := first | omega | assumption | (simp only [rL, Nat.reduceAdd]; try omega)) only [↓rD, rU, ev, ofConst, ofCell, ↓reduceIte, Nat.reduceEqDiff, Nat.reduceAdd, Nat.reduceSub, Nat.reduceMul, Nat.reduceLeDiff, Nat.reduceLT, Int.reduceNeg, Int.reduceToNat, Int.reduceAdd, Int.reduceSub, Int.reduceMul, Int.reduceLT, Int.reduceLE, Int.reduceEq, f2, f4, f5, f6, f7, f18, hlt, hvl, hKl, hSl, wl_at, wl_at0, List.getD_cons_zero, List.getD_cons_succ]
      refine call_intro (rotl_spec' _ _ 10 (by decide) (by decide) _) ?_
      rintro _ _ ⟨rfl, rfl⟩
      simp (dsimp := false) (implicitDefEqProofs := false) (disch := first | omega | assumption | (simp only [rL, Nat.reduceAdd]; try omega)) only [↓rD, rU, ev, ofConst, ofCell, ↓reduceIte, Nat.reduceEqDiff, Nat.reduceAdd, Nat.reduceSub, Nat.reduceMul, Nat.reduceLeDiff, Nat.reduceLT, Int.reduceNeg, Int.reduceToNat, Int.reduceAdd, Int.reduceSub, Int.reduceMul, Int.reduceLT, Int.reduceLE, Int.reduceEq, f2, f4, f5, f6, f7, f18, hlt, hvl, hKl, hSl, wl_at, wl_at0, List.getD_cons_zero, List.getD_cons_succ, putAt, List.take, List.drop, List.replicate, List.cons_append, List.nil_append]
      refine ⟨⟨i + 1, rnd (K.getD i 0) (S.getD i 0) [a, b, c, d, e, f', g, k'], by omega, rfl, ?_, by simp, rfl⟩, by omega⟩
      rw [← hg, goR_drop K S _ i (by omega) (by omega)]
    · obtain rfl : i = 64 := by omega
      have hv' : goR K S h = v := by
        rw [← hg, List.drop_of_length_le (by omega)]; rfl
      simp (dsimp := false) (implicitDefEqProofs := false) (disch := first | omega | assumption | (simp only [rL, Nat.reduceAdd]; try omega)) only [↓rD, rU, ev, ofConst, ofCell, ↓reduceIte, Nat.reduceEqDiff, Nat.reduceAdd, Nat.reduceSub, Nat.reduceMul, Nat.reduceLeDiff, Nat.reduceLT, Int.reduceNeg, Int.reduceToNat, Int.reduceAdd, Int.reduceSub, Int.reduceMul, Int.reduceLT, Int.reduceLE, Int.reduceEq, f2, f4, f5, f6, f7, f18, hlt, hvl, hKl, hSl]
      refine loop_intro (fun f s' => ∃ i : Nat, i ≤ 8 ∧ f 2 = .ptr l2 0 ∧ f 4 = .ptr l4 0 ∧ f 7 = .ptr l7 0 ∧ f 108 = .v (.int .i64 i) ∧
          s' = (((((s.set l2 (.cells (wl h))).set l4 (.cells (List.replicate 8 (.v (.int .u32 0))))).set l5 (.cells (wl S))).set l6 (.cells (wl K))).set l7 (.cells (wl (addTo i v h)))))
        (fun f _ => match f 108 with | .v (.int _ n) => (8 - n).toNat | _ => 0) ⟨0, by omega, ?_⟩ ?_
      · simp (dsimp := false) (implicitDefEqProofs := false) (disch := first | omega | assumption | (simp only [rL, Nat.reduceAdd]; try omega)) only [↓rD, rU, ev, ofConst, ofCell, ↓reduceIte, Nat.reduceEqDiff, Nat.reduceAdd, Nat.reduceSub, Nat.reduceMul, Nat.reduceLeDiff, Nat.reduceLT, Int.reduceNeg, Int.reduceToNat, Int.reduceAdd, Int.reduceSub, Int.reduceMul, Int.reduceLT, Int.reduceLE, Int.reduceEq, f2, f4, f7]
        exact ⟨rfl, rfl⟩
      · rintro f s' ⟨i, hi, f2, f4, f7, f108, rfl⟩
        by_cases hlt : (i : Int) < 8
        · obtain ⟨ha, hb⟩ := addTo_put v h hv hh i (by omega)
          have hal : (wl (addTo i v h)).length = 8 := by rw [wl_length, ha]
          simp (dsimp := false) (implicitDefEqProofs := false) (disch := first | omega | assumption | (simp only [rL, Nat.reduceAdd]; try omega)) only [↓rD, rU, ev, ofConst, ofCell, ↓reduceIte, Nat.reduceEqDiff, Nat.reduceAdd, Nat.reduceSub, Nat.reduceMul, Nat.reduceLeDiff, Nat.reduceLT, Int.reduceNeg, Int.reduceToNat, Int.reduceAdd, Int.reduceSub, Int.reduceMul, Int.reduceLT, Int.reduceLE, Int.reduceEq, f2, f4, f7, f108, hlt, hwl, hal, wl_at, wl_put, hb]
          exact ⟨⟨i + 1, by omega, by simp, rfl⟩, by omega⟩
        · obtain rfl : i = 8 := by omega
          have hz : addTo 8 v h = List.zipWith (· + ·) v h := by
            simp only [addTo]; rw [List.take_of_length_le (by omega), List.take_of_length_le (by omega), List.drop_of_length_le (by omega), List.append_nil]
          have hzl : (wl (List.zipWith (· + ·) v h)).length = 8 := by rw [wl_length]; simp; omega
          rw [hz]
          simp (dsimp := false) (implicitDefEqProofs := false) (disch := first | omega | assumption | (simp only [rL, Nat.reduceAdd]; try omega)) only [↓rD, rU, ev, ofConst, ofCell, ↓reduceIte, Nat.reduceEqDiff, Nat.reduceAdd, Nat.reduceSub, Nat.reduceMul, Nat.reduceLeDiff, Nat.reduceLT, Int.reduceNeg, Int.reduceToNat, Int.reduceAdd, Int.reduceSub, Int.reduceMul, Int.reduceLT, Int.reduceLE, Int.reduceEq, f2, f4, f7, f108, hlt, hzl, List.take_of_length_le]
          refine ⟨s, ?_, rfl, by rw [hv']⟩
          exact Hp.sub_new (Hp.sub_new (Hp.sub_new (Hp.sub_new (Hp.sub_new Hp.sub_refl n2) n4) n5) n6) n7
theorem turn_spec (h : List UInt32) (bs : List UInt8) (o : Own) (hh : h.length = 8) (hb : bs.length = 64) (s : Hp) :
    AC Tryz.prog 74 [.agg (wl h), .sl (bs.map byteAV) o] s fun r s' => s' = s ∧ r = .agg (wl (comp h bs)) :=
  turn_aux h K256 (sched bs) bs o hh rfl (sched_length bs) rounds_spec (sched_spec' bs o hb) s
theorem comp_length (h : List UInt32) (bs : List UInt8) (hh : h.length = 8) : (comp h bs).length = 8 := by
  simp [comp, goR_length _ _ _ hh, hh]
end Go.Proofs.YtnnjjmiahcnbaaaGreat
set_option maxRecDepth 100000
namespace Go.Proofs.YtnnjjmiahcnbaaaGreat
open Go Go.Av
def bytes (bs : List UInt8) (o : Own) : AV := .sl (bs.map byteAV) o
def eightB (n : Nat) : List UInt8 := [UInt8.ofNat (n >>> 56), UInt8.ofNat (n >>> 48), UInt8.ofNat (n >>> 40), UInt8.ofNat (n >>> 32), UInt8.ofNat (n >>> 24), UInt8.ofNat (n >>> 16), UInt8.ofNat (n >>> 8), UInt8.ofNat (n >>> 0)]
theorem eight_spec (n : Nat) (s : Hp) : AC Tryz.prog 27 [.v (.int .u64 n)] s fun r s' => ∃ o, Owned s s' 1 ((eightB n).map byteAV) o ∧ r = .sl ((eightB n).map byteAV) o := by
  refine AC_run hm prep27 (by simp) ?_
  simp (dsimp := false) (implicitDefEqProofs := false) (disch := first | omega | assumption | (simp only [rL, Nat.reduceAdd]; try omega)) only [↓rD, rU, ev, ofConst, ofCell, ↓reduceIte, Nat.reduceEqDiff, Nat.reduceAdd, Nat.reduceSub, Nat.reduceMul, Nat.reduceLeDiff, Nat.reduceLT, Int.reduceNeg, Int.reduceToNat, Int.reduceAdd, Int.reduceSub, Int.reduceMul, Int.reduceLT, Int.reduceLE, Int.reduceEq]
  refine loop_intro (fun f s' => ∃ (j : Nat) (o : Own), j ≤ 8 ∧ Owned s s' 1 (((eightB n).take j).map byteAV) o ∧ f 0 = .v (.int .u64 n) ∧ f 3 = .sl (((eightB n).take j).map byteAV) o ∧ f 4 = .v (.int .i64 (56 - 8 * (j : Int))))
    (fun f _ => match f 4 with | .v (.int _ n) => (n + 8).toNat | _ => 0) ⟨0, .nil, by omega, Owned.nilB Hp.sub_refl, ?_⟩ ?_
  · simp (dsimp := false) (implicitDefEqProofs := false) (disch := first | omega | assumption | (simp only [rL, Nat.reduceAdd]; try omega)) only [↓rD, rU, ev, ofConst, ofCell, ↓reduceIte, Nat.reduceEqDiff, Nat.reduceAdd, Nat.reduceSub, Nat.reduceMul, Nat.reduceLeDiff, Nat.reduceLT, Int.reduceNeg, Int.reduceToNat, Int.reduceAdd, Int.reduceSub, Int.reduceMul, Int.reduceLT, Int.reduceLE, Int.reduceEq]
    exact ⟨rfl, rfl⟩
  · rintro f s' ⟨j, o, hj, ho, f0, f3, f4⟩
    by_cases hlt : (0 : Int) ≤ 56 - 8 * (j : Int)
    · simp (dsimp := false) (implicitDefEqProofs := false) (disch := first | omega | assumption | (simp only [rL, Nat.reduceAdd]; try omega)) only [↓rD, rU, ev, ofConst, ofCell, ↓reduceIte, Nat.reduceEqDiff, Nat.reduceAdd, Nat.reduceSub, Nat.reduceMul, Nat.reduceLeDiff, Nat.reduceLT, Int.reduceNeg, Int.reduceToNat, Int.reduceAdd, Int.reduceSub, Int.reduceMul, Int.reduceLT, Int.reduceLE, Int.reduceEq, f0, f3, f4, hlt, wrap_u8_nat]
      refine bsl_byte Hp.sub_refl fun o' s1 h1 => ?_
      simp (dsimp := false) (implicitDefEqProofs := false) (disch := first | omega | assumption | (simp only [rL, Nat.reduceAdd]; try omega)) only [↓rD, rU, ev, ofConst, ofCell, ↓reduceIte, Nat.reduceEqDiff, Nat.reduceAdd, Nat.reduceSub, Nat.reduceMul, Nat.reduceLeDiff, Nat.reduceLT, Int.reduceNeg, Int.reduceToNat, Int.reduceAdd, Int.reduceSub, Int.reduceMul, Int.reduceLT, Int.reduceLE, Int.reduceEq, f0, f3, f4, hlt]
      refine app_byte1 (ho.mono h1.sub) (by simp [eightB]; omega) fun o2 s2 h2 => ?_
      simp (dsimp := false) (implicitDefEqProofs := false) (disch := first | omega | assumption | (simp only [rL, Nat.reduceAdd]; try omega)) only [↓rD, rU, ev, ofConst, ofCell, ↓reduceIte, Nat.reduceEqDiff, Nat.reduceAdd, Nat.reduceSub, Nat.reduceMul, Nat.reduceLeDiff, Nat.reduceLT, Int.reduceNeg, Int.reduceToNat, Int.reduceAdd, Int.reduceSub, Int.reduceMul, Int.reduceLT, Int.reduceLE, Int.reduceEq, f0, f3, f4, hlt]
      refine ⟨⟨j + 1, o2, by omega, ?_, ?_⟩, by omega⟩
      · have e : (eightB n).take (j + 1) = (eightB n).take j ++ [UInt8.ofNat (n >>> (56 - 8 * (j : Int)).toNat)] := by
          rcases (by omega : j = 0 ∨ j = 1 ∨ j = 2 ∨ j = 3 ∨ j = 4 ∨ j = 5 ∨ j = 6 ∨ j = 7) with rfl | rfl | rfl | rfl | rfl | rfl | rfl | rfl <;> rfl
        rw [e]; exact h2
      · have e : (eightB n).take (j + 1) = (eightB n).take j ++ [UInt8.ofNat (n >>> (56 - 8 * (j : Int)).toNat)] := by
          rcases (by omega : j = 0 ∨ j = 1 ∨ j = 2 ∨ j = 3 ∨ j = 4 ∨ j = 5 ∨ j = 6 ∨ j = 7) with rfl | rfl | rfl | rfl | rfl | rfl | rfl | rfl <;> rfl
        refine ⟨by rw [e], by simp; omega⟩
    · obtain rfl : j = 8 := by omega
      simp (dsimp := false) (implicitDefEqProofs := false) (disch := first | omega | assumption | (simp only [rL, Nat.reduceAdd]; try omega)) only [↓rD, rU, ev, ofConst, ofCell, ↓reduceIte, Nat.reduceEqDiff, Nat.reduceAdd, Nat.reduceSub, Nat.reduceMul, Nat.reduceLeDiff, Nat.reduceLT, Int.reduceNeg, Int.reduceToNat, Int.reduceAdd, Int.reduceSub, Int.reduceMul, Int.reduceLT, Int.reduceLE, Int.reduceEq, f0, f3, f4, hlt]
      exact ⟨s', Hp.sub_refl, o, ho, rfl⟩
end Go.Proofs.YtnnjjmiahcnbaaaGreat
set_option maxRecDepth 100000
namespace Go.Proofs.YtnnjjmiahcnbaaaGreat
open Go Go.Av
def TX (ts : List (List UInt8 × Own)) : List AV := ts.map fun p => .sl (p.1.map byteAV) p.2
def chunk (t : List UInt8) : List UInt8 := eightB t.length ++ t
def preB (tag : UInt8) (ts : List (List UInt8)) : List UInt8 := tag :: ts.flatMap chunk
theorem preB_ge (tag : UInt8) : ∀ ts : List (List UInt8), ts.length < (preB tag ts).length
  | [] => by simp [preB]
  | t :: r => by
    have := preB_ge tag r
    simp only [preB, List.length_cons, List.flatMap_cons, List.length_append, chunk, eightB, List.length_nil] at this ⊢
    omega
theorem pre_spec (tag : UInt8) (ts : List (List UInt8 × Own)) (o : Own) (hlen : (preB tag (ts.map (·.1))).length ≤ 70368744177664) (s : Hp) :
    AC Tryz.prog 12 [.v (.int .u8 tag.toNat), .sl (TX ts) o] s fun r s' => ∃ o, Owned s s' 1 ((preB tag (ts.map (·.1))).map byteAV) o ∧ r = .sl ((preB tag (ts.map (·.1))).map byteAV) o := by
  refine AC_run hm prep12 (by simp) ?_
  simp (dsimp := false) (implicitDefEqProofs := false) (disch := first | omega | assumption | (simp only [rL, Nat.reduceAdd]; try omega)) only [↓rD, rU, ev, ofConst, ofCell, ↓reduceIte, Nat.reduceEqDiff, Nat.reduceAdd, Nat.reduceSub, Nat.reduceMul, Nat.reduceLeDiff, Nat.reduceLT, Int.reduceNeg, Int.reduceToNat, Int.reduceAdd, Int.reduceSub, Int.reduceMul, Int.reduceLT, Int.reduceLE, Int.reduceEq]
  refine bsl_byte Hp.sub_refl fun o1 s1 h1 => ?_
  simp (dsimp := false) (implicitDefEqProofs := false) (disch := first | omega | assumption | (simp only [rL, Nat.reduceAdd]; try omega)) only [↓rD, rU, ev, ofConst, ofCell, ↓reduceIte, Nat.reduceEqDiff, Nat.reduceAdd, Nat.reduceSub, Nat.reduceMul, Nat.reduceLeDiff, Nat.reduceLT, Int.reduceNeg, Int.reduceToNat, Int.reduceAdd, Int.reduceSub, Int.reduceMul, Int.reduceLT, Int.reduceLE, Int.reduceEq]
  refine loop_intro (fun f s' => ∃ (p q : List (List UInt8 × Own)) (o' : Own), ts = p ++ q ∧ Owned s s' 1 ((preB tag (p.map (·.1))).map byteAV) o' ∧ f 5 = .sl ((preB tag (p.map (·.1))).map byteAV) o' ∧ f 10 = .sl (TX ts) o ∧ f 11 = .v (.int .i64 ts.length) ∧ f 12 = .v (.int .i64 p.length))
    (fun f _ => match f 12 with | .v (.int _ n) => (ts.length - n).toNat | _ => 0) ⟨[], ts, o1, rfl, h1, ?_⟩ ?_
  · simp (dsimp := false) (implicitDefEqProofs := false) (disch := first | omega | assumption | (simp only [rL, Nat.reduceAdd]; try omega)) only [↓rD, rU, ev, ofConst, ofCell, ↓reduceIte, Nat.reduceEqDiff, Nat.reduceAdd, Nat.reduceSub, Nat.reduceMul, Nat.reduceLeDiff, Nat.reduceLT, Int.reduceNeg, Int.reduceToNat, Int.reduceAdd, Int.reduceSub, Int.reduceMul, Int.reduceLT, Int.reduceLE, Int.reduceEq]
    exact ⟨rfl, by simp [TX], rfl⟩
  · rintro f s' ⟨p, q, o', rfl, ho, f5, f10, f11, f12⟩
    cases q with
    | nil =>
      have hlt : ¬ (p.length : Int) < ((p ++ []).length : Nat) := by simp
      simp (dsimp := false) (implicitDefEqProofs := false) (disch := first | omega | assumption | (simp only [rL, Nat.reduceAdd]; try omega)) only [↓rD, rU, ev, ofConst, ofCell, ↓reduceIte, Nat.reduceEqDiff, Nat.reduceAdd, Nat.reduceSub, Nat.reduceMul, Nat.reduceLeDiff, Nat.reduceLT, Int.reduceNeg, Int.reduceToNat, Int.reduceAdd, Int.reduceSub, Int.reduceMul, Int.reduceLT, Int.reduceLE, Int.reduceEq, f5, f10, f11, f12, hlt]
      simp only [List.append_nil] at *
      exact ⟨s', Hp.sub_refl, o', ho, rfl⟩
    | cons x q =>
      obtain ⟨t, ot⟩ := x
      have hlt : (p.length : Int) < ((p ++ (t, ot) :: q).length : Nat) := by simp; omega
      have he : (TX (p ++ (t, ot) :: q))[p.length]? = some (.sl (t.map byteAV) ot) := by simp [TX]
      have hb : (preB tag (p.map (·.1))).length + 8 + t.length ≤ 70368744177664 := by
        refine Nat.le_trans ?_ hlen
        simp [preB, chunk, eightB]; omega
      have hpl := preB_ge tag (p.map (·.1))
      rw [List.length_map] at hpl
      simp (dsimp := false) (implicitDefEqProofs := false) (disch := first | omega | assumption | (simp only [rL, Nat.reduceAdd]; try omega)) only [↓rD, rU, ev, ofConst, ofCell, ↓reduceIte, Nat.reduceEqDiff, Nat.reduceAdd, Nat.reduceSub, Nat.reduceMul, Nat.reduceLeDiff, Nat.reduceLT, Int.reduceNeg, Int.reduceToNat, Int.reduceAdd, Int.reduceSub, Int.reduceMul, Int.reduceLT, Int.reduceLE, Int.reduceEq, f5, f10, f11, f12, hlt, he, iaSA_sl]
      refine call_intro (eight_spec t.length _) ?_
      rintro _ s2 ⟨o2, h2, rfl⟩
      simp (dsimp := false) (implicitDefEqProofs := false) (disch := first | omega | assumption | (simp only [rL, Nat.reduceAdd]; try omega)) only [↓rD, rU, ev, ofConst, ofCell, ↓reduceIte, Nat.reduceEqDiff, Nat.reduceAdd, Nat.reduceSub, Nat.reduceMul, Nat.reduceLeDiff, Nat.reduceLT, Int.reduceNeg, Int.reduceToNat, Int.reduceAdd, Int.reduceSub, Int.reduceMul, Int.reduceLT, Int.reduceLE, Int.reduceEq, f5, f10, f11, f12, hlt, he, iaSA_sl]
      refine app_bytes (ho.mono h2.sub) ?_ fun o3 s3 h3 => ?_
      · simp only [eightB, List.length_cons, List.length_nil]; omega
      simp (dsimp := false) (implicitDefEqProofs := false) (disch := first | omega | assumption | (simp only [rL, Nat.reduceAdd]; try omega)) only [↓rD, rU, ev, ofConst, ofCell, ↓reduceIte, Nat.reduceEqDiff, Nat.reduceAdd, Nat.reduceSub, Nat.reduceMul, Nat.reduceLeDiff, Nat.reduceLT, Int.reduceNeg, Int.reduceToNat, Int.reduceAdd, Int.reduceSub, Int.reduceMul, Int.reduceLT, Int.reduceLE, Int.reduceEq, f5, f10, f11, f12, hlt, he, iaSA_sl]
      refine app_bytes h3 ?_ fun o4 s4 h4 => ?_
      · simp only [eightB, List.length_append, List.length_cons, List.length_nil]; omega
      simp (dsimp := false) (implicitDefEqProofs := false) (disch := first | omega | assumption | (simp only [rL, Nat.reduceAdd]; try omega)) only [↓rD, rU, ev, ofConst, ofCell, ↓reduceIte, Nat.reduceEqDiff, Nat.reduceAdd, Nat.reduceSub, Nat.reduceMul, Nat.reduceLeDiff, Nat.reduceLT, Int.reduceNeg, Int.reduceToNat, Int.reduceAdd, Int.reduceSub, Int.reduceMul, Int.reduceLT, Int.reduceLE, Int.reduceEq, f5, f10, f11, f12, hlt, he, iaSA_sl]
      have e : preB tag (p.map (·.1)) ++ eightB t.length ++ t = preB tag ((p ++ [(t, ot)]).map (·.1)) := by simp [preB, chunk]
      rw [e] at h4 ⊢
      refine ⟨⟨p ++ [(t, ot)], q, o4, by simp, h4, rfl, ?_⟩, ?_⟩
      · simp
      · have : p.length < (p ++ (t, ot) :: q).length := by simp
        omega
end Go.Proofs.YtnnjjmiahcnbaaaGreat
set_option maxRecDepth 100000
namespace Go.Proofs.YtnnjjmiahcnbaaaGreat
open Go Go.Av
def blocks : Nat → List UInt32 → List UInt8 → List UInt32
  | 0, h, _ => h
  | n + 1, h, bs => blocks n (comp h (bs.take 64)) (bs.drop 64)
theorem blocks_length : ∀ (n : Nat) (h : List UInt32) (bs : List UInt8), h.length = 8 → (blocks n h bs).length = 8
  | 0, _, _, hh => hh
  | n + 1, h, bs, hh => by rw [blocks]; exact blocks_length n _ _ (comp_length h _ hh)
theorem blocks_succ : ∀ (n : Nat) (h : List UInt32) (bs : List UInt8), blocks (n + 1) h bs = comp (blocks n h bs) ((bs.drop (64 * n)).take 64)
  | 0, h, bs => by simp [blocks]
  | n + 1, h, bs => by
    rw [blocks, blocks_succ n, blocks, List.drop_drop]
    rw [show 64 + 64 * n = 64 * (n + 1) by omega]
theorem blocks_add : ∀ (a b : Nat) (h : List UInt32) (bs : List UInt8), blocks (a + b) h bs = blocks b (blocks a h bs) (bs.drop (64 * a))
  | 0, b, h, bs => by simp [blocks]
  | a + 1, b, h, bs => by
    rw [show a + 1 + b = (a + b) + 1 by omega, blocks, blocks_add a b, blocks, List.drop_drop, show 64 + 64 * a = 64 * (a + 1) by omega]
theorem blocks_append : ∀ (a : Nat) (h : List UInt32) (bs cs : List UInt8), 64 * a ≤ bs.length → blocks a h (bs ++ cs) = blocks a h bs
  | 0, _, _, _, _ => rfl
  | a + 1, h, bs, cs, hl => by
    rw [blocks, blocks, List.take_append_of_le_length (by omega), List.drop_append_of_le_length (by omega)]
    exact blocks_append a _ _ _ (by simp; omega)
section
variable {h : List UInt32} {a b c : AV} (hh : h.length = 8)
include hh
theorem st_len : (wl h ++ [a, b]).length = 10 := by simp [wl, hh]
theorem st_drop9 : (wl h ++ [a, b]).drop 9 = [b] := by
  rw [show (9 : Nat) = (wl h).length + 1 by rw [wl_length, hh], ← List.drop_drop, List.drop_left]; rfl
theorem st_drop8 : (wl h ++ [a, b]).drop 8 = [a, b] := by
  rw [show (8 : Nat) = (wl h).length by rw [wl_length, hh], List.drop_left]
theorem st_take8 : (wl h ++ [a, b]).take 8 = wl h := by
  rw [show (8 : Nat) = (wl h).length by rw [wl_length, hh], List.take_left]
theorem st_put9 : putAt (wl h ++ [a, b]) 9 [c] = wl h ++ [a, c] := by
  have h8 : (wl h).length = 8 := by rw [wl_length, hh]
  simp [putAt, List.take_append, List.drop_append, h8, List.take_of_length_le, List.drop_of_length_le]
theorem st_put8 : putAt (wl h ++ [a, b]) 8 [c] = wl h ++ [c, b] := by
  have h8 : (wl h).length = 8 := by rw [wl_length, hh]
  simp [putAt, List.take_append, List.drop_append, h8, List.take_of_length_le, List.drop_of_length_le]
theorem st_put0 {w : List UInt32} (hw : w.length = 8) : putAt (wl h ++ [a, b]) 0 (wl w) = wl w ++ [a, b] := by
  have h8 : (wl h).length = 8 := by rw [wl_length, hh]
  have w8 : (wl w).length = 8 := by rw [wl_length, hw]
  simp [putAt, List.take_append, List.drop_append, h8, w8, List.drop_of_length_le]
end
theorem Hp.set_eq {s : Hp} {l : Nat} {o : Ob} (h : s l = some o) : s.set l o = s := by
  funext x; simp only [Hp.set]; split
  · rename_i e; rw [e, h]
  · rfl
theorem Hp.sub_set_of {s t : Hp} {l : Nat} {o p : Ob} (h : (s.set l o).sub t) : (s.set l p).sub (t.set l p) := fun x q hq => by
  rw [Hp.set_get] at hq ⊢
  split
  · rename_i e; rw [if_pos e] at hq; exact hq
  · rename_i e; rw [if_neg e] at hq; exact h x q (by rw [Hp.set_get, if_neg e]; exact hq)
theorem write_aux (H : List UInt32) (h8 : H.length = 8) (hbeg : ∀ s, AC Tryz.prog 73 [] s fun r s' => s' = s ∧ r = .agg (wl H)) (bs : List UInt8) (o : Own) (hb : bs.length ≤ 70368744177664) (s : Hp) (l : Nat) (hl : s l = some (.cells (wl H ++ [.sl [] .nil, .v (.int .u64 0)]))) :
    AC Tryz.prog 43 [.ptr l 0, .sl (bs.map byteAV) o] s fun _ s' => ∃ o', s' = s.set l (.cells (wl (blocks (bs.length / 64) H bs) ++ [.sl ((bs.drop (64 * (bs.length / 64))).map byteAV) o', .v (.int .u64 bs.length)])) := by
  refine AC_run hm prep43 (by simp) ?_
  have hW : (wl H).length = 8 := by rw [wl_length, h8]
  rw [← Hp.set_eq hl]
  simp (dsimp := false) (implicitDefEqProofs := false) (disch := first | omega | assumption | (simp only [rL, Nat.reduceAdd]; try omega)) only [↓rD, rU, ev, ofConst, ofCell, ↓reduceIte, Nat.reduceEqDiff, Nat.reduceAdd, Nat.reduceSub, Nat.reduceMul, Nat.reduceLeDiff, Nat.reduceLT, Int.reduceNeg, Int.reduceToNat, Int.reduceAdd, Int.reduceSub, Int.reduceMul, Int.reduceLT, Int.reduceLE, Int.reduceEq, st_len h8, st_drop9 h8, st_drop8 h8, st_take8 h8, st_put9 h8, st_put8 h8]
  refine call_intro (hbeg _) ?_
  rintro _ _ ⟨rfl, rfl⟩
  simp (dsimp := false) (implicitDefEqProofs := false) (disch := first | omega | assumption | (simp only [rL, Nat.reduceAdd]; try omega)) only [↓rD, rU, ev, ofConst, ofCell, ↓reduceIte, Nat.reduceEqDiff, Nat.reduceAdd, Nat.reduceSub, Nat.reduceMul, Nat.reduceLeDiff, Nat.reduceLT, Int.reduceNeg, Int.reduceToNat, Int.reduceAdd, Int.reduceSub, Int.reduceMul, Int.reduceLT, Int.reduceLE, Int.reduceEq, st_len h8, st_drop9 h8, st_drop8 h8, st_take8 h8, st_put9 h8, st_put8 h8, st_put0 h8 h8, hW]
  refine bsl_own Hp.sub_refl (by simp [allLen]) fun o1 s1 h1 => ?_
  have hl1 := h1.sub l _ (Hp.set_same _ _ _)
  simp (dsimp := false) (implicitDefEqProofs := false) (disch := first | omega | assumption | (simp only [rL, Nat.reduceAdd]; try omega)) only [↓rD, rU, ev, ofConst, ofCell, ↓reduceIte, Nat.reduceEqDiff, Nat.reduceAdd, Nat.reduceSub, Nat.reduceMul, Nat.reduceLeDiff, Nat.reduceLT, Int.reduceNeg, Int.reduceToNat, Int.reduceAdd, Int.reduceSub, Int.reduceMul, Int.reduceLT, Int.reduceLE, Int.reduceEq, Hp.stA_of hl1, Hp.read_of hl1, st_len h8, st_drop9 h8, st_drop8 h8, st_take8 h8, st_put9 h8, st_put8 h8, st_put0 h8 h8, hW]
  refine app_own (ys := []) h1 (by simp [allLen]) (by simp [allLen]) (by simp) (by simp) fun o2 s2 h2 => ?_
  simp (dsimp := false) (implicitDefEqProofs := false) (disch := first | omega | assumption | (simp only [rL, Nat.reduceAdd]; try omega)) only [↓rD, rU, ev, ofConst, ofCell, ↓reduceIte, Nat.reduceEqDiff, Nat.reduceAdd, Nat.reduceSub, Nat.reduceMul, Nat.reduceLeDiff, Nat.reduceLT, Int.reduceNeg, Int.reduceToNat, Int.reduceAdd, Int.reduceSub, Int.reduceMul, Int.reduceLT, Int.reduceLE, Int.reduceEq]
  refine app_bytes (xs := []) h2 (by simp; omega) fun o3 s3 h3 => ?_
  have hl3 := h3.sub l _ (Hp.set_same _ _ _)
  rw [← Hp.set_eq hl3]
  simp (dsimp := false) (implicitDefEqProofs := false) (disch := first | omega | assumption | (simp only [rL, Nat.reduceAdd]; try omega)) only [↓rD, rU, ev, ofConst, ofCell, ↓reduceIte, Nat.reduceEqDiff, Nat.reduceAdd, Nat.reduceSub, Nat.reduceMul, Nat.reduceLeDiff, Nat.reduceLT, Int.reduceNeg, Int.reduceToNat, Int.reduceAdd, Int.reduceSub, Int.reduceMul, Int.reduceLT, Int.reduceLE, Int.reduceEq, Int.zero_add, List.nil_append]
  refine loop_intro (fun f s' => ∃ (k : Nat) (o' : Own), 64 * k ≤ bs.length ∧ f 0 = .ptr l 0 ∧ f 4 = .sl ((bs.drop (64 * k)).map byteAV) o' ∧ s' = s3.set l (.cells (wl (blocks k H bs) ++ [.sl [] .nil, .v (.int .u64 bs.length)])))
    (fun f _ => match f 4 with | .sl xs _ => xs.length | _ => 0) ⟨0, o3, by omega, ?_⟩ ?_
  · simp (dsimp := false) (implicitDefEqProofs := false) (disch := first | omega | assumption | (simp only [rL, Nat.reduceAdd]; try omega)) only [↓rD, rU, ev, ofConst, ofCell, ↓reduceIte, Nat.reduceEqDiff, Nat.reduceAdd, Nat.reduceSub, Nat.reduceMul, Nat.reduceLeDiff, Nat.reduceLT, Int.reduceNeg, Int.reduceToNat, Int.reduceAdd, Int.reduceSub, Int.reduceMul, Int.reduceLT, Int.reduceLE, Int.reduceEq, Int.zero_add]
    rfl
  · rintro f s' ⟨k, o', hk, f0, f4, rfl⟩
    have hB := blocks_length k H bs h8
    generalize hBe : blocks k H bs = B at *
    have hBW : (wl B).length = 8 := by rw [wl_length, hB]
    by_cases hlt : (64 : Int) ≤ ((bs.drop (64 * k)).length : Int)
    · have hlt' := hlt
      rw [List.length_drop] at hlt'
      simp (dsimp := false) (implicitDefEqProofs := false) (disch := first | omega | assumption | (simp only [rL, Nat.reduceAdd]; try omega)) only [↓rD, rU, ev, ofConst, ofCell, ↓reduceIte, Nat.reduceEqDiff, Nat.reduceAdd, Nat.reduceSub, Nat.reduceMul, Nat.reduceLeDiff, Nat.reduceLT, Int.reduceNeg, Int.reduceToNat, Int.reduceAdd, Int.reduceSub, Int.reduceMul, Int.reduceLT, Int.reduceLE, Int.reduceEq, f0, f4, hlt, st_len hB, st_take8 hB]
      have ht : ((bs.drop (64 * k)).take (64 : Int).toNat).length = 64 := by simp; omega
      refine call_intro (turn_spec B _ _ hB ht _) ?_
      rintro _ _ ⟨rfl, rfl⟩
      have hC := comp_length B ((bs.drop (64 * k)).take 64) hB
      have hCW : (wl (comp B ((bs.drop (64 * k)).take 64))).length = 8 := by rw [wl_length, hC]
      simp (dsimp := false) (implicitDefEqProofs := false) (disch := first | omega | assumption | (simp only [rL, Nat.reduceAdd]; try omega)) only [↓rD, rU, ev, ofConst, ofCell, ↓reduceIte, Nat.reduceEqDiff, Nat.reduceAdd, Nat.reduceSub, Nat.reduceMul, Nat.reduceLeDiff, Nat.reduceLT, Int.reduceNeg, Int.reduceToNat, Int.reduceAdd, Int.reduceSub, Int.reduceMul, Int.reduceLT, Int.reduceLE, Int.reduceEq, f0, f4, hlt, st_len hB, st_put0 hB hC, hCW]
      refine ⟨⟨k + 1, .any, by omega, ?_, ?_⟩, by simp only [List.length_drop]; omega⟩
      · rw [List.drop_drop, show 64 * k + 64 = 64 * (k + 1) by omega]
      · rw [blocks_succ, hBe]
    · simp (dsimp := false) (implicitDefEqProofs := false) (disch := first | omega | assumption | (simp only [rL, Nat.reduceAdd]; try omega)) only [↓rD, rU, ev, ofConst, ofCell, ↓reduceIte, Nat.reduceEqDiff, Nat.reduceAdd, Nat.reduceSub, Nat.reduceMul, Nat.reduceLeDiff, Nat.reduceLT, Int.reduceNeg, Int.reduceToNat, Int.reduceAdd, Int.reduceSub, Int.reduceMul, Int.reduceLT, Int.reduceLE, Int.reduceEq, f0, f4, hlt, st_len hB, st_put8 hB]
      rw [List.length_drop] at hlt
      have hk' : bs.length / 64 = k := by omega
      refine ⟨s.set l _, Hp.sub_set_of h3.sub, o', ?_⟩
      rw [hk', hBe]
theorem write_spec (bs : List UInt8) (o : Own) (hb : bs.length ≤ 70368744177664) (s : Hp) (l : Nat) (hl : s l = some (.cells (wl H256 ++ [.sl [] .nil, .v (.int .u64 0)]))) :
    AC Tryz.prog 43 [.ptr l 0, .sl (bs.map byteAV) o] s fun _ s' => ∃ o', s' = s.set l (.cells (wl (blocks (bs.length / 64) H256 bs) ++ [.sl ((bs.drop (64 * (bs.length / 64))).map byteAV) o', .v (.int .u64 bs.length)])) :=
  write_aux H256 rfl begin_spec bs o hb s l hl
end Go.Proofs.YtnnjjmiahcnbaaaGreat
set_option maxRecDepth 100000
namespace Go.Proofs.YtnnjjmiahcnbaaaGreat
open Go Go.Av
def zeros (n : Nat) : Nat := (55 + 64 - n % 64) % 64
def padB (n : Nat) (rest : List UInt8) : List UInt8 := rest ++ 128 :: List.replicate (zeros n) 0 ++ eightB (8 * n)
def quad (x : UInt32) : List UInt8 := [(x >>> 24).toUInt8, (x >>> 16).toUInt8, (x >>> 8).toUInt8, x.toUInt8]
def quads (h : List UInt32) : List UInt8 := h.flatMap quad
def dg (bs : List UInt8) : AV := .agg (bs.map byteAV)
def cellsB (w : List UInt8) : List AV := w.map byteAV ++ List.replicate (32 - w.length) (.v (.int .u8 0))
theorem cellsB_nil : cellsB [] = List.replicate 32 (.v (.int .u8 0)) := by simp [cellsB]
theorem cellsB_length {w : List UInt8} (h : w.length ≤ 32) : (cellsB w).length = 32 := by simp [cellsB]; omega
theorem cellsB_put {w : List UInt8} {i : Nat} (x : UInt8) (h : i = w.length) (h2 : w.length < 32) : putAt (cellsB w) i [.v (.int .u8 x.toNat)] = cellsB (w ++ [x]) := by
  subst h
  have e : 32 - w.length = (32 - (w.length + 1)) + 1 := by omega
  simp only [putAt, cellsB, e, List.replicate_succ]
  simp [List.take_append, List.drop_append, byteAV]
theorem quads_length : ∀ h : List UInt32, (quads h).length = 4 * h.length
  | [] => rfl
  | x :: r => by simp only [quads, List.flatMap_cons, List.length_append] at *; have := quads_length r; simp only [quads] at this; rw [this]; simp [quad]; omega
theorem done_aux (H : List UInt32) (h8 : H.length = 8) (hbeg : ∀ s, AC Tryz.prog 73 [] s fun r s' => s' = s ∧ r = .agg (wl H)) (B : List UInt32) (hB : B.length = 8) (n : Nat) (rest : List UInt8) (o : Own) (hn : n ≤ 70368744177664) (hr : rest.length = n % 64) (h0 : n = 0 → B = H)
    (s : Hp) (l : Nat) (hl : s l = some (.cells (wl B ++ [.sl (rest.map byteAV) o, .v (.int .u64 n)]))) :
    AC Tryz.prog 44 [.ptr l 0] s fun r s' => s' = s ∧ r = dg (quads (blocks ((padB n rest).length / 64) B (padB n rest))) := by
  refine AC_run hm prep44 (by simp) ?_
  have hW : (wl B).length = 8 := by rw [wl_length, hB]
  simp (dsimp := false) (implicitDefEqProofs := false) (disch := first | omega | assumption | (simp only [rL, Nat.reduceAdd]; try omega)) only [↓rD, rU, ev, ofConst, ofCell, ↓reduceIte, Nat.reduceEqDiff, Nat.reduceAdd, Nat.reduceSub, Nat.reduceMul, Nat.reduceLeDiff, Nat.reduceLT, Int.reduceNeg, Int.reduceToNat, Int.reduceAdd, Int.reduceSub, Int.reduceMul, Int.reduceLT, Int.reduceLE, Int.reduceEq]
  refine newK_intro fun l2 n2 => ?_
  have d2 : l ≠ l2 := by rintro rfl; rw [n2] at hl; cases hl
  simp (dsimp := false) (implicitDefEqProofs := false) (disch := first | omega | assumption | (simp only [rL, Nat.reduceAdd]; try omega)) only [↓rD, rU, ev, ofConst, ofCell, ↓reduceIte, Nat.reduceEqDiff, Nat.reduceAdd, Nat.reduceSub, Nat.reduceMul, Nat.reduceLeDiff, Nat.reduceLT, Int.reduceNeg, Int.reduceToNat, Int.reduceAdd, Int.reduceSub, Int.reduceMul, Int.reduceLT, Int.reduceLE, Int.reduceEq, Hp.read_of hl, st_len hB, st_drop9 hB, st_drop8 hB, st_take8 hB]
  refine newK_intro fun l3 n3 => ?_
  obtain ⟨d32, n3⟩ := Hp.set_none n3
  have d3 : l ≠ l3 := by rintro rfl; rw [n3] at hl; cases hl
  simp (dsimp := false) (implicitDefEqProofs := false) (disch := first | omega | assumption | (simp only [rL, Nat.reduceAdd]; try omega)) only [↓rD, rU, ev, ofConst, ofCell, ↓reduceIte, Nat.reduceEqDiff, Nat.reduceAdd, Nat.reduceSub, Nat.reduceMul, Nat.reduceLeDiff, Nat.reduceLT, Int.reduceNeg, Int.reduceToNat, Int.reduceAdd, Int.reduceSub, Int.reduceMul, Int.reduceLT, Int.reduceLE, Int.reduceEq, Hp.read_of hl, st_len hB, st_drop9 hB, st_drop8 hB, st_take8 hB, hW]
  refine cond_join (fun f s' => f 0 = .ptr l 0 ∧ f 2 = .ptr l2 0 ∧ f 3 = .ptr l3 0 ∧ s' = (s.set l2 (.cells (List.replicate 32 (.v (.int .u8 0))))).set l3 (.cells (wl B))) ?_ ?_ ?_
  · intro hz
    have hn0 : n = 0 := by simpa using hz
    have hBH := h0 hn0
    subst hBH
    simp (dsimp := false) (implicitDefEqProofs := false) (disch := first | omega | assumption | (simp only [rL, Nat.reduceAdd]; try omega)) only [↓rD, rU, ev, ofConst, ofCell, ↓reduceIte, Nat.reduceEqDiff, Nat.reduceAdd, Nat.reduceSub, Nat.reduceMul, Nat.reduceLeDiff, Nat.reduceLT, Int.reduceNeg, Int.reduceToNat, Int.reduceAdd, Int.reduceSub, Int.reduceMul, Int.reduceLT, Int.reduceLE, Int.reduceEq]
    refine call_intro (hbeg _) ?_
    rintro _ _ ⟨rfl, rfl⟩
    simp (dsimp := false) (implicitDefEqProofs := false) (disch := first | omega | assumption | (simp only [rL, Nat.reduceAdd]; try omega)) only [↓rD, rU, ev, ofConst, ofCell, ↓reduceIte, Nat.reduceEqDiff, Nat.reduceAdd, Nat.reduceSub, Nat.reduceMul, Nat.reduceLeDiff, Nat.reduceLT, Int.reduceNeg, Int.reduceToNat, Int.reduceAdd, Int.reduceSub, Int.reduceMul, Int.reduceLT, Int.reduceLE, Int.reduceEq, hW]
  · intro _
    simp (dsimp := false) (implicitDefEqProofs := false) (disch := first | omega | assumption | (simp only [rL, Nat.reduceAdd]; try omega)) only [↓rD, rU, ev, ofConst, ofCell, ↓reduceIte, Nat.reduceEqDiff, Nat.reduceAdd, Nat.reduceSub, Nat.reduceMul, Nat.reduceLeDiff, Nat.reduceLT, Int.reduceNeg, Int.reduceToNat, Int.reduceAdd, Int.reduceSub, Int.reduceMul, Int.reduceLT, Int.reduceLE, Int.reduceEq]
  · rintro f s' ⟨f0, f2, f3, rfl⟩
    have hl' : ((s.set l2 (.cells (List.replicate 32 (.v (.int .u8 0))))).set l3 (.cells (wl B))) l = some (.cells (wl B ++ [.sl (rest.map byteAV) o, .v (.int .u64 n)])) := by
      rw [Hp.set_ne _ _ d3, Hp.set_ne _ _ d2]; exact hl
    generalize hs1 : ((s.set l2 (.cells (List.replicate 32 (.v (.int .u8 0))))).set l3 (.cells (wl B))) = s1 at *
    simp (dsimp := false) (implicitDefEqProofs := false) (disch := first | omega | assumption | (simp only [rL, Nat.reduceAdd]; try omega)) only [↓rD, rU, ev, ofConst, ofCell, ↓reduceIte, Nat.reduceEqDiff, Nat.reduceAdd, Nat.reduceSub, Nat.reduceMul, Nat.reduceLeDiff, Nat.reduceLT, Int.reduceNeg, Int.reduceToNat, Int.reduceAdd, Int.reduceSub, Int.reduceMul, Int.reduceLT, Int.reduceLE, Int.reduceEq, f0, f2, f3]
    refine bsl_own Hp.sub_refl (by simp [allLen]) fun o2 s2 h2 => ?_
    have hl2 := h2.sub _ _ hl'
    simp (dsimp := false) (implicitDefEqProofs := false) (disch := first | omega | assumption | (simp only [rL, Nat.reduceAdd]; try omega)) only [↓rD, rU, ev, ofConst, ofCell, ↓reduceIte, Nat.reduceEqDiff, Nat.reduceAdd, Nat.reduceSub, Nat.reduceMul, Nat.reduceLeDiff, Nat.reduceLT, Int.reduceNeg, Int.reduceToNat, Int.reduceAdd, Int.reduceSub, Int.reduceMul, Int.reduceLT, Int.reduceLE, Int.reduceEq, f0, f2, f3, Hp.read_of hl2, st_len hB, st_drop8 hB]
    refine app_bytes (xs := []) h2 (by simp; omega) fun o3 s3 h3 => ?_
    simp (dsimp := false) (implicitDefEqProofs := false) (disch := first | omega | assumption | (simp only [rL, Nat.reduceAdd]; try omega)) only [↓rD, rU, ev, ofConst, ofCell, ↓reduceIte, Nat.reduceEqDiff, Nat.reduceAdd, Nat.reduceSub, Nat.reduceMul, Nat.reduceLeDiff, Nat.reduceLT, Int.reduceNeg, Int.reduceToNat, Int.reduceAdd, Int.reduceSub, Int.reduceMul, Int.reduceLT, Int.reduceLE, Int.reduceEq, f0, f2, f3]
    refine bsl_byte (b := 128) Hp.sub_refl fun o4 s4 h4 => ?_
    simp (dsimp := false) (implicitDefEqProofs := false) (disch := first | omega | assumption | (simp only [rL, Nat.reduceAdd]; try omega)) only [↓rD, rU, ev, ofConst, ofCell, ↓reduceIte, Nat.reduceEqDiff, Nat.reduceAdd, Nat.reduceSub, Nat.reduceMul, Nat.reduceLeDiff, Nat.reduceLT, Int.reduceNeg, Int.reduceToNat, Int.reduceAdd, Int.reduceSub, Int.reduceMul, Int.reduceLT, Int.reduceLE, Int.reduceEq, f0, f2, f3]
    refine app_byte1 (h3.mono h4.sub) (by simp; omega) fun o5 s5 h5 => ?_
    simp (dsimp := false) (implicitDefEqProofs := false) (disch := first | omega | assumption | (simp only [rL, Nat.reduceAdd]; try omega)) only [↓rD, rU, ev, ofConst, ofCell, ↓reduceIte, Nat.reduceEqDiff, Nat.reduceAdd, Nat.reduceSub, Nat.reduceMul, Nat.reduceLeDiff, Nat.reduceLT, Int.reduceNeg, Int.reduceToNat, Int.reduceAdd, Int.reduceSub, Int.reduceMul, Int.reduceLT, Int.reduceLE, Int.reduceEq, f0, f2, f3, List.nil_append]
    refine loop_intro (fun f s' => ∃ (j : Nat) (o' : Own), j ≤ zeros n ∧ f 0 = .ptr l 0 ∧ f 2 = .ptr l2 0 ∧ f 3 = .ptr l3 0 ∧ f 4 = .sl ((rest ++ 128 :: List.replicate j 0).map byteAV) o' ∧ Owned s1 s' 1 ((rest ++ 128 :: List.replicate j 0).map byteAV) o')
      (fun f _ => match f 4 with | .sl xs _ => 200 - xs.length | _ => 0) ⟨0, o5, by omega, ?_⟩ ?_
    · simp (dsimp := false) (implicitDefEqProofs := false) (disch := first | omega | assumption | (simp only [rL, Nat.reduceAdd]; try omega)) only [↓rD, rU, ev, ofConst, ofCell, ↓reduceIte, Nat.reduceEqDiff, Nat.reduceAdd, Nat.reduceSub, Nat.reduceMul, Nat.reduceLeDiff, Nat.reduceLT, Int.reduceNeg, Int.reduceToNat, Int.reduceAdd, Int.reduceSub, Int.reduceMul, Int.reduceLT, Int.reduceLE, Int.reduceEq, f0, f2, f3]
      exact ⟨rfl, by simpa using h5⟩
    · rintro f s' ⟨j, o', hj, f0, f2, f3, f4, ho⟩
      have hz : zeros n ≤ 63 := by unfold zeros; omega
      have hlen : (rest ++ 128 :: List.replicate j 0).length = n % 64 + 1 + j := by simp [hr]; omega
      by_cases hlt : j < zeros n
      · have hne : ¬ (((n % 64 + 1 + j) % 64 : Nat) : Int) = 56 := by unfold zeros at hlt; omega
        simp (dsimp := false) (implicitDefEqProofs := false) (disch := first | omega | assumption | (simp only [rL, Nat.reduceAdd]; try omega)) only [↓rD, rU, ev, ofConst, ofCell, ↓reduceIte, Nat.reduceEqDiff, Nat.reduceAdd, Nat.reduceSub, Nat.reduceMul, Nat.reduceLeDiff, Nat.reduceLT, Int.reduceNeg, Int.reduceToNat, Int.reduceAdd, Int.reduceSub, Int.reduceMul, Int.reduceLT, Int.reduceLE, Int.reduceEq, f0, f2, f3, f4, hlen, tmod64, hne, ne_eq, not_false_eq_true]
        refine bsl_byte (b := 0) Hp.sub_refl fun o6 s6 h6 => ?_
        simp (dsimp := false) (implicitDefEqProofs := false) (disch := first | omega | assumption | (simp only [rL, Nat.reduceAdd]; try omega)) only [↓rD, rU, ev, ofConst, ofCell, ↓reduceIte, Nat.reduceEqDiff, Nat.reduceAdd, Nat.reduceSub, Nat.reduceMul, Nat.reduceLeDiff, Nat.reduceLT, Int.reduceNeg, Int.reduceToNat, Int.reduceAdd, Int.reduceSub, Int.reduceMul, Int.reduceLT, Int.reduceLE, Int.reduceEq, f0, f2, f3, f4]
        refine app_byte1 (ho.mono h6.sub) (by omega) fun o7 s7 h7 => ?_
        have e : rest ++ 128 :: List.replicate j 0 ++ [0] = rest ++ 128 :: List.replicate (j + 1) 0 := by simp [List.replicate_succ']
        simp (dsimp := false) (implicitDefEqProofs := false) (disch := first | omega | assumption | (simp only [rL, Nat.reduceAdd]; try omega)) only [↓rD, rU, ev, ofConst, ofCell, ↓reduceIte, Nat.reduceEqDiff, Nat.reduceAdd, Nat.reduceSub, Nat.reduceMul, Nat.reduceLeDiff, Nat.reduceLT, Int.reduceNeg, Int.reduceToNat, Int.reduceAdd, Int.reduceSub, Int.reduceMul, Int.reduceLT, Int.reduceLE, Int.reduceEq, f0, f2, f3, f4]
        rw [e] at h7 ⊢
        refine ⟨⟨j + 1, o7, by omega, rfl, h7⟩, ?_⟩
        simp only [List.length_append, List.length_cons, List.length_replicate, hr]; omega
      · obtain rfl : j = zeros n := by omega
        have heq : (((n % 64 + 1 + zeros n) % 64 : Nat) : Int) = 56 := by unfold zeros; omega
        have hl4 := ho.sub _ _ hl'
        simp (dsimp := false) (implicitDefEqProofs := false) (disch := first | omega | assumption | (simp only [rL, Nat.reduceAdd]; try omega)) only [↓rD, rU, ev, ofConst, ofCell, ↓reduceIte, Nat.reduceEqDiff, Nat.reduceAdd, Nat.reduceSub, Nat.reduceMul, Nat.reduceLeDiff, Nat.reduceLT, Int.reduceNeg, Int.reduceToNat, Int.reduceAdd, Int.reduceSub, Int.reduceMul, Int.reduceLT, Int.reduceLE, Int.reduceEq, f0, f2, f3, f4, hlen, tmod64, heq, ne_eq, not_true_eq_false, Hp.read_of hl4, st_len hB, st_drop9 hB]
        have e8 : (8 : Int) * (n : Int) = ((8 * n : Nat) : Int) := by simp
        rw [e8]
        refine call_intro (eight_spec (8 * n) _) ?_
        rintro _ s6 ⟨o6, h6, rfl⟩
        simp (dsimp := false) (implicitDefEqProofs := false) (disch := first | omega | assumption | (simp only [rL, Nat.reduceAdd]; try omega)) only [↓rD, rU, ev, ofConst, ofCell, ↓reduceIte, Nat.reduceEqDiff, Nat.reduceAdd, Nat.reduceSub, Nat.reduceMul, Nat.reduceLeDiff, Nat.reduceLT, Int.reduceNeg, Int.reduceToNat, Int.reduceAdd, Int.reduceSub, Int.reduceMul, Int.reduceLT, Int.reduceLE, Int.reduceEq, f0, f2, f3, f4]
        refine app_bytes (ho.mono h6.sub) (by simp [eightB]; omega) fun o7 s7 h7 => ?_
        simp (dsimp := false) (implicitDefEqProofs := false) (disch := first | omega | assumption | (simp only [rL, Nat.reduceAdd]; try omega)) only [↓rD, rU, ev, ofConst, ofCell, ↓reduceIte, Nat.reduceEqDiff, Nat.reduceAdd, Nat.reduceSub, Nat.reduceMul, Nat.reduceLeDiff, Nat.reduceLT, Int.reduceNeg, Int.reduceToNat, Int.reduceAdd, Int.reduceSub, Int.reduceMul, Int.reduceLT, Int.reduceLE, Int.reduceEq, f0, f2, f3, f4]
        have hl37 : s7 l3 = some (.cells (wl B)) := h7.sub _ _ (by rw [← hs1]; exact Hp.set_same _ _ _)
        have hl27 : s7 l2 = some (.cells (List.replicate 32 (.v (.int .u8 0)))) := h7.sub _ _ (by rw [← hs1, Hp.set_ne _ _ (Ne.symm d32)]; exact Hp.set_same _ _ _)
        have hs7 : s.sub s7 := Hp.sub_trans (by rw [← hs1]; exact Hp.sub_new (Hp.sub_new Hp.sub_refl n2) n3) h7.sub
        rw [← Hp.set_eq hl37]
        have hpad : rest ++ 128 :: List.replicate (zeros n) 0 ++ eightB (8 * n) = padB n rest := rfl
        have hpl : (padB n rest).length = 64 * ((padB n rest).length / 64) := by
          have : (padB n rest).length = n % 64 + 1 + zeros n + 8 := by simp [padB, hr, eightB]; omega
          rw [this]; unfold zeros; omega
        rw [hpad]
        generalize padB n rest = pad at *
        refine loop_intro (fun f s' => ∃ (k : Nat) (o' : Own), 64 * k ≤ pad.length ∧ f 2 = .ptr l2 0 ∧ f 3 = .ptr l3 0 ∧ f 4 = .sl ((pad.drop (64 * k)).map byteAV) o' ∧ s' = s7.set l3 (.cells (wl (blocks k B pad))))
          (fun f _ => match f 4 with | .sl xs _ => xs.length | _ => 0) ⟨0, o7, by omega, ?_⟩ ?_
        · simp (dsimp := false) (implicitDefEqProofs := false) (disch := first | omega | assumption | (simp only [rL, Nat.reduceAdd]; try omega)) only [↓rD, rU, ev, ofConst, ofCell, ↓reduceIte, Nat.reduceEqDiff, Nat.reduceAdd, Nat.reduceSub, Nat.reduceMul, Nat.reduceLeDiff, Nat.reduceLT, Int.reduceNeg, Int.reduceToNat, Int.reduceAdd, Int.reduceSub, Int.reduceMul, Int.reduceLT, Int.reduceLE, Int.reduceEq, f2, f3]
          rfl
        · rintro f s' ⟨k, o', hk, f2, f3, f4, rfl⟩
          have hC := blocks_length k B pad hB
          have hCW : (wl (blocks k B pad)).length = 8 := by rw [wl_length, hC]
          by_cases hlt : (0 : Int) < ((pad.drop (64 * k)).length : Int)
          · have hlt' := hlt
            rw [List.length_drop] at hlt'
            have hle : 64 ≤ (pad.drop (64 * k)).length := by rw [List.length_drop]; omega
            simp (dsimp := false) (implicitDefEqProofs := false) (disch := first | omega | assumption | (simp only [rL, Nat.reduceAdd]; try omega)) only [↓rD, rU, ev, ofConst, ofCell, ↓reduceIte, Nat.reduceEqDiff, Nat.reduceAdd, Nat.reduceSub, Nat.reduceMul, Nat.reduceLeDiff, Nat.reduceLT, Int.reduceNeg, Int.reduceToNat, Int.reduceAdd, Int.reduceSub, Int.reduceMul, Int.reduceLT, Int.reduceLE, Int.reduceEq, f2, f3, f4, hlt, hCW, List.take_of_length_le]
            have ht : ((pad.drop (64 * k)).take 64).length = 64 := by simp; omega
            refine call_intro (turn_spec _ _ _ hC ht _) ?_
            rintro _ _ ⟨rfl, rfl⟩
            have hD := comp_length (blocks k B pad) ((pad.drop (64 * k)).take 64) hC
            have hDW : (wl (comp (blocks k B pad) ((pad.drop (64 * k)).take 64))).length = 8 := by rw [wl_length, hD]
            simp (dsimp := false) (implicitDefEqProofs := false) (disch := first | omega | assumption | (simp only [rL, Nat.reduceAdd]; try omega)) only [↓rD, rU, ev, ofConst, ofCell, ↓reduceIte, Nat.reduceEqDiff, Nat.reduceAdd, Nat.reduceSub, Nat.reduceMul, Nat.reduceLeDiff, Nat.reduceLT, Int.reduceNeg, Int.reduceToNat, Int.reduceAdd, Int.reduceSub, Int.reduceMul, Int.reduceLT, Int.reduceLE, Int.reduceEq, f2, f3, f4, hCW, hDW]
            refine ⟨⟨k + 1, .any, by omega, ?_, ?_⟩, by simp only [List.length_drop]; omega⟩
            · rw [List.drop_drop, show 64 * k + 64 = 64 * (k + 1) by omega]
            · rw [blocks_succ]
          · rw [List.length_drop] at hlt
            have hk' : k = pad.length / 64 := by omega
            simp (dsimp := false) (implicitDefEqProofs := false) (disch := first | omega | assumption | (simp only [rL, Nat.reduceAdd]; try omega)) only [↓rD, rU, ev, ofConst, ofCell, ↓reduceIte, Nat.reduceEqDiff, Nat.reduceAdd, Nat.reduceSub, Nat.reduceMul, Nat.reduceLeDiff, Nat.reduceLT, Int.reduceNeg, Int.reduceToNat, Int.reduceAdd, Int.reduceSub, Int.reduceMul, Int.reduceLT, Int.reduceLE, Int.reduceEq, f2, f3, f4, List.length_drop, hlt]
            rw [← hk']
            generalize hF : blocks k B pad = F at *
            refine newK_intro fun l5 n5 => ?_
            obtain ⟨d53, n5⟩ := Hp.set_none n5
            have d52 : l5 ≠ l2 := by rintro rfl; rw [n5] at hl27; cases hl27
            simp (dsimp := false) (implicitDefEqProofs := false) (disch := first | omega | assumption | (simp only [rL, Nat.reduceAdd]; try omega)) only [↓rD, rU, ev, ofConst, ofCell, ↓reduceIte, Nat.reduceEqDiff, Nat.reduceAdd, Nat.reduceSub, Nat.reduceMul, Nat.reduceLeDiff, Nat.reduceLT, Int.reduceNeg, Int.reduceToNat, Int.reduceAdd, Int.reduceSub, Int.reduceMul, Int.reduceLT, Int.reduceLE, Int.reduceEq, f2, f3, f4, hCW, List.take_of_length_le]
            refine loop_intro (fun f s' => ∃ i : Nat, i ≤ 8 ∧ f 2 = .ptr l2 0 ∧ f 5 = .ptr l5 0 ∧ f 50 = .agg (wl F) ∧ f 51 = .v (.int .i64 i) ∧ s' = (s7.set l3 (.cells (wl F))).set l5 (.cells (cellsB (quads (F.take i)))))
              (fun f _ => match f 51 with | .v (.int _ n) => (8 - n).toNat | _ => 0) ⟨0, by omega, ?_⟩ ?_
            · simp (dsimp := false) (implicitDefEqProofs := false) (disch := first | omega | assumption | (simp only [rL, Nat.reduceAdd]; try omega)) only [↓rD, rU, ev, ofConst, ofCell, ↓reduceIte, Nat.reduceEqDiff, Nat.reduceAdd, Nat.reduceSub, Nat.reduceMul, Nat.reduceLeDiff, Nat.reduceLT, Int.reduceNeg, Int.reduceToNat, Int.reduceAdd, Int.reduceSub, Int.reduceMul, Int.reduceLT, Int.reduceLE, Int.reduceEq, f2, f3, f4]
              exact ⟨rfl, by rw [List.take_zero]; rfl⟩
            · rintro f s' ⟨i, hi, f2, f5, f50, f51, rfl⟩
              have hq : (quads (F.take i)).length = 4 * i := by rw [quads_length]; simp; omega
              by_cases hlt : (i : Int) < 8
              · have c0 : (cellsB (quads (F.take i))).length = 32 := cellsB_length (by omega)
                have g0 : (4 * (i : Int)).toNat = 4 * i := by omega
                have g1 : (4 * (i : Int) + 1).toNat = 4 * i + 1 := by omega
                have g2 : (4 * (i : Int) + 2).toNat = 4 * i + 2 := by omega
                have g3 : (4 * (i : Int) + 3).toNat = 4 * i + 3 := by omega
                have hp : ∀ (w : List UInt8) (x : UInt8), w.length < 32 → putAt (cellsB w) w.length [.v (.int .u8 x.toNat)] = cellsB (w ++ [x]) := fun w x h => cellsB_put x rfl h
                simp (dsimp := false) (implicitDefEqProofs := false) (disch := first | omega | assumption | (simp only [rL, Nat.reduceAdd]; try omega)) only [↓rD, rU, ev, ofConst, ofCell, ↓reduceIte, Nat.reduceEqDiff, Nat.reduceAdd, Nat.reduceSub, Nat.reduceMul, Nat.reduceLeDiff, Nat.reduceLT, Int.reduceNeg, Int.reduceToNat, Int.reduceAdd, Int.reduceSub, Int.reduceMul, Int.reduceLT, Int.reduceLE, Int.reduceEq, f2, f5, f50, f51, hlt, hCW, wl_at, g0, g1, g2, g3, cellsB_put, cellsB_length]
                refine ⟨⟨i + 1, by omega, by simp, ?_⟩, by omega⟩
                have e : quads (F.take (i + 1)) = quads (F.take i) ++ quad (F.getD i 0) := by
                  have hFi : i < F.length := by omega
                  have hg : F.getD i 0 = F[i] := by simp [List.getD, hFi]
                  rw [hg, quads, List.take_succ_eq_append_getElem hFi, List.flatMap_append]
                  simp only [List.flatMap_cons, List.flatMap_nil, List.append_nil, quads]
                rw [e, quad]; simp only [List.append_assoc, List.cons_append, List.nil_append]; rfl
              · obtain rfl : i = 8 := by omega
                have c0 : (cellsB (quads (F.take 8))).length = 32 := cellsB_length (by omega)
                have e8 : F.take 8 = F := List.take_of_length_le (by omega)
                have c1 : cellsB (quads F) = (quads F).map byteAV := by rw [e8] at hq; simp [cellsB, hq]
                have hQ : ((quads F).map byteAV).length = 32 := by rw [e8] at hq; simp [hq]
                have hq8 : (quads F).length = 32 := by rw [e8] at hq; exact hq
                rw [e8, c1]
                simp (dsimp := false) (implicitDefEqProofs := false) (disch := first | omega | assumption | (simp only [rL, Nat.reduceAdd]; try omega)) only [↓rD, rU, ev, ofConst, ofCell, ↓reduceIte, Nat.reduceEqDiff, Nat.reduceAdd, Nat.reduceSub, Nat.reduceMul, Nat.reduceLeDiff, Nat.reduceLT, Int.reduceNeg, Int.reduceToNat, Int.reduceAdd, Int.reduceSub, Int.reduceMul, Int.reduceLT, Int.reduceLE, Int.reduceEq, f2, f5, f50, f51, hlt, hQ, List.take_of_length_le, Hp.stA_of hl27, Hp.read_of hl27, d52, Ne.symm d52, Ne.symm d32, putAt_all]
                refine ⟨s, ?_, rfl, rfl⟩
                exact Hp.sub_new (Hp.sub_new (Hp.sub_new hs7 n3) (Hp.sub_none hs7 n5)) n2
theorem new_spec (s : Hp) : AC Tryz.prog 42 [] s fun r s' => ∃ l, s l = none ∧ r = .ptr l 0 ∧ s' = s.set l (.cells (wl H256 ++ [.sl [] .nil, .v (.int .u64 0)])) := by
  refine AC_run hm prep42 (by simp) ?_
  simp (dsimp := false) (implicitDefEqProofs := false) (disch := first | omega | assumption | (simp only [rL, Nat.reduceAdd]; try omega)) only [↓rD, rU, ev, ofConst, ofCell, ↓reduceIte, Nat.reduceEqDiff, Nat.reduceAdd, Nat.reduceSub, Nat.reduceMul, Nat.reduceLeDiff, Nat.reduceLT, Int.reduceNeg, Int.reduceToNat, Int.reduceAdd, Int.reduceSub, Int.reduceMul, Int.reduceLT, Int.reduceLE, Int.reduceEq]
  refine call_intro (begin_spec _) ?_
  rintro _ _ ⟨rfl, rfl⟩
  have h8 : (wl H256).length = 8 := rfl
  have e : putAt (List.replicate 8 (AV.v (Value.int IntKind.u32 0)) ++ [AV.sl [] Own.nil] ++ [AV.v (Value.int IntKind.u64 0)]) 0 (wl H256) = wl H256 ++ [.sl [] .nil, .v (.int .u64 0)] := rfl
  simp (dsimp := false) (implicitDefEqProofs := false) (disch := first | omega | assumption | (simp only [rL, Nat.reduceAdd]; try omega)) only [↓rD, rU, ev, ofConst, ofCell, ↓reduceIte, Nat.reduceEqDiff, Nat.reduceAdd, Nat.reduceSub, Nat.reduceMul, Nat.reduceLeDiff, Nat.reduceLT, Int.reduceNeg, Int.reduceToNat, Int.reduceAdd, Int.reduceSub, Int.reduceMul, Int.reduceLT, Int.reduceLE, Int.reduceEq, h8, e]
  refine newK_intro fun l hl => ?_
  simp (dsimp := false) (implicitDefEqProofs := false) (disch := first | omega | assumption | (simp only [rL, Nat.reduceAdd]; try omega)) only [↓rD, rU, ev, ofConst, ofCell, ↓reduceIte, Nat.reduceEqDiff, Nat.reduceAdd, Nat.reduceSub, Nat.reduceMul, Nat.reduceLeDiff, Nat.reduceLT, Int.reduceNeg, Int.reduceToNat, Int.reduceAdd, Int.reduceSub, Int.reduceMul, Int.reduceLT, Int.reduceLE, Int.reduceEq]
  exact ⟨_, Hp.sub_refl, l, hl, rfl, rfl⟩
def sha256 (bs : List UInt8) : List UInt8 :=
  quads (blocks ((padB bs.length (bs.drop (64 * (bs.length / 64)))).length / 64) (blocks (bs.length / 64) H256 bs) (padB bs.length (bs.drop (64 * (bs.length / 64)))))
theorem sha256_length (bs : List UInt8) : (sha256 bs).length = 32 := by
  rw [sha256, quads_length, blocks_length _ _ _ (blocks_length _ _ _ rfl)]
theorem sum_spec (bs : List UInt8) (o : Own) (hb : bs.length ≤ 70368744177664) (s : Hp) : AC Tryz.prog 14 [.sl (bs.map byteAV) o] s fun r s' => s' = s ∧ r = dg (sha256 bs) := by
  refine AC_run hm prep14 (by simp) ?_
  simp (dsimp := false) (implicitDefEqProofs := false) (disch := first | omega | assumption | (simp only [rL, Nat.reduceAdd]; try omega)) only [↓rD, rU, ev, ofConst, ofCell, ↓reduceIte, Nat.reduceEqDiff, Nat.reduceAdd, Nat.reduceSub, Nat.reduceMul, Nat.reduceLeDiff, Nat.reduceLT, Int.reduceNeg, Int.reduceToNat, Int.reduceAdd, Int.reduceSub, Int.reduceMul, Int.reduceLT, Int.reduceLE, Int.reduceEq]
  refine newK_intro fun l2 n2 => ?_
  simp (dsimp := false) (implicitDefEqProofs := false) (disch := first | omega | assumption | (simp only [rL, Nat.reduceAdd]; try omega)) only [↓rD, rU, ev, ofConst, ofCell, ↓reduceIte, Nat.reduceEqDiff, Nat.reduceAdd, Nat.reduceSub, Nat.reduceMul, Nat.reduceLeDiff, Nat.reduceLT, Int.reduceNeg, Int.reduceToNat, Int.reduceAdd, Int.reduceSub, Int.reduceMul, Int.reduceLT, Int.reduceLE, Int.reduceEq]
  refine call_intro (new_spec _) ?_
  rintro _ _ ⟨l, hl, rfl, rfl⟩
  obtain ⟨d2, nl⟩ := Hp.set_none hl
  simp (dsimp := false) (implicitDefEqProofs := false) (disch := first | omega | assumption | (simp only [rL, Nat.reduceAdd]; try omega)) only [↓rD, rU, ev, ofConst, ofCell, ↓reduceIte, Nat.reduceEqDiff, Nat.reduceAdd, Nat.reduceSub, Nat.reduceMul, Nat.reduceLeDiff, Nat.reduceLT, Int.reduceNeg, Int.reduceToNat, Int.reduceAdd, Int.reduceSub, Int.reduceMul, Int.reduceLT, Int.reduceLE, Int.reduceEq]
  refine call_intro (write_spec bs o hb _ l (Hp.set_same _ _ _)) ?_
  rintro _ _ ⟨o', rfl⟩
  simp (dsimp := false) (implicitDefEqProofs := false) (disch := first | omega | assumption | (simp only [rL, Nat.reduceAdd]; try omega)) only [↓rD, rU, ev, ofConst, ofCell, ↓reduceIte, Nat.reduceEqDiff, Nat.reduceAdd, Nat.reduceSub, Nat.reduceMul, Nat.reduceLeDiff, Nat.reduceLT, Int.reduceNeg, Int.reduceToNat, Int.reduceAdd, Int.reduceSub, Int.reduceMul, Int.reduceLT, Int.reduceLE, Int.reduceEq]
  have hdl : (bs.drop (64 * (bs.length / 64))).length = bs.length % 64 := by simp; omega
  refine call_intro (done_aux H256 rfl begin_spec (blocks (bs.length / 64) H256 bs) (blocks_length _ _ _ rfl) bs.length (bs.drop (64 * (bs.length / 64))) o' hb hdl (fun h0 => ?_) _ l (Hp.set_same _ _ _)) ?_
  · rw [h0]; rfl
  rintro _ _ ⟨rfl, rfl⟩
  have hq : ((sha256 bs).map byteAV).length = 32 := by rw [List.length_map, sha256_length]
  have hq' := sha256_length bs
  have hsd : dg (quads (blocks ((padB bs.length (bs.drop (64 * (bs.length / 64)))).length / 64) (blocks (bs.length / 64) H256 bs) (padB bs.length (bs.drop (64 * (bs.length / 64)))))) = .agg ((sha256 bs).map byteAV) := rfl
  rw [hsd]
  generalize sha256 bs = d at *
  simp (dsimp := false) (implicitDefEqProofs := false) (disch := first | omega | assumption | (simp only [rL, Nat.reduceAdd]; try omega)) only [↓rD, rU, ev, ofConst, ofCell, ↓reduceIte, Nat.reduceEqDiff, Nat.reduceAdd, Nat.reduceSub, Nat.reduceMul, Nat.reduceLeDiff, Nat.reduceLT, Int.reduceNeg, Int.reduceToNat, Int.reduceAdd, Int.reduceSub, Int.reduceMul, Int.reduceLT, Int.reduceLE, Int.reduceEq, hq, Ne.symm d2]
  exact ⟨s, Hp.sub_new (Hp.sub_new Hp.sub_refl n2) nl, rfl, by rw [List.take_of_length_le (by omega)]; rfl⟩
end Go.Proofs.YtnnjjmiahcnbaaaGreat
set_option maxRecDepth 100000
namespace Go.Proofs.YtnnjjmiahcnbaaaGreat
open Go Go.Av
def blen (x : Nat) : Nat := if x = 0 then 0 else x.log2 + 1
theorem blen_shift (x k : Nat) (h : 2 ^ k ≤ x) : k + blen (x >>> k) = blen x := by
  have hp : 0 < 2 ^ k := Nat.pow_pos (by omega)
  have h0 : x ≠ 0 := by omega
  have h1 : x >>> k ≠ 0 := by
    rw [Nat.shiftRight_eq_div_pow]
    have := Nat.div_pos h hp; omega
  have e : x.log2 = k + (x >>> k).log2 := by
    rw [Nat.log2_eq_iff h0]
    obtain ⟨a, b⟩ := (Nat.log2_eq_iff h1).1 rfl
    generalize (x >>> k).log2 = L at *
    rw [Nat.shiftRight_eq_div_pow] at a b
    rw [Nat.le_div_iff_mul_le hp] at a
    rw [Nat.div_lt_iff_lt_mul hp] at b
    constructor
    · rw [Nat.add_comm, Nat.pow_add]; exact a
    · rw [show k + L + 1 = (L + 1) + k by omega, Nat.pow_add]; exact b
  simp only [blen, h0, h1, if_false, e]; omega
theorem blen_le (x k : Nat) (h : x < 2 ^ k) : blen x ≤ k := by
  unfold blen; split
  · omega
  · rename_i h0; have := (Nat.log2_lt h0).2 h; omega
def tabOk (t : ByteArray) : Bool := (List.range 256).all fun i => t.data[i]? == some (UInt8.ofNat (blen i))
theorem tab_ok (t : ByteArray) (x : Nat) (h : tabOk t = true) (hx : x < 256) : idxSA (.v (.string t)) (.v (.int .u8 x)) = some (.v (.int .u8 (blen x))) := by
  simp only [tabOk, List.all_eq_true, List.mem_range] at h
  have h1 := h x hx
  have h2 : t.data[x]? = some (UInt8.ofNat (blen x)) := by simpa using h1
  have h3 := blen_le x 8 hx
  simp only [idxSA, Int.toNat_natCast, h2, if_pos (Int.natCast_nonneg x)]
  have : (UInt8.ofNat (blen x)).toNat = blen x := by simp; omega
  rw [this]
theorem len64_spec (x : Nat) (hx : x < 2 ^ 64) (s : Hp) : AC Tryz.prog 129 [.v (.int .u64 x)] s fun r s' => s' = s ∧ r = .v (.int .i64 (blen x)) := by
  refine AC_run hm prep129 (by simp) ?_
  simp (dsimp := false) (implicitDefEqProofs := false) (disch := first | omega | assumption | (simp only [rL, Nat.reduceAdd]; try omega)) only [↓rD, rU, ev, ofConst, ofCell, ↓reduceIte, Nat.reduceEqDiff, Nat.reduceAdd, Nat.reduceSub, Nat.reduceMul, Nat.reduceLeDiff, Nat.reduceLT, Int.reduceNeg, Int.reduceToNat, Int.reduceAdd, Int.reduceSub, Int.reduceMul, Int.reduceLT, Int.reduceLE, Int.reduceEq]
  refine cond_join (fun f s' => s' = s ∧ ∃ y r : Nat, f 0 = .v (.int .u64 y) ∧ f 2 = .v (.int .i64 r) ∧ y < 2 ^ 32 ∧ r ≤ 32 ∧ r + blen y = blen x) ?_ ?_ ?_
  · intro h
    have h : 4294967296 ≤ x := by simp at h; omega
    simp (dsimp := false) (implicitDefEqProofs := false) (disch := first | omega | assumption | (simp only [rL, Nat.reduceAdd]; try omega)) only [↓rD, rU, ev, ofConst, ofCell, ↓reduceIte, Nat.reduceEqDiff, Nat.reduceAdd, Nat.reduceSub, Nat.reduceMul, Nat.reduceLeDiff, Nat.reduceLT, Int.reduceNeg, Int.reduceToNat, Int.reduceAdd, Int.reduceSub, Int.reduceMul, Int.reduceLT, Int.reduceLE, Int.reduceEq]
    exact ⟨x >>> 32, 32, rfl, rfl, by simp [Nat.shiftRight_eq_div_pow]; omega, by omega, blen_shift x 32 h⟩
  · intro h
    have h : x < 4294967296 := by simp at h; omega
    simp (dsimp := false) (implicitDefEqProofs := false) (disch := first | omega | assumption | (simp only [rL, Nat.reduceAdd]; try omega)) only [↓rD, rU, ev, ofConst, ofCell, ↓reduceIte, Nat.reduceEqDiff, Nat.reduceAdd, Nat.reduceSub, Nat.reduceMul, Nat.reduceLeDiff, Nat.reduceLT, Int.reduceNeg, Int.reduceToNat, Int.reduceAdd, Int.reduceSub, Int.reduceMul, Int.reduceLT, Int.reduceLE, Int.reduceEq]
    exact ⟨x, 0, rfl, rfl, h, by omega, by omega⟩
  rintro f s' ⟨hs', y, r, f0, f2, hy, hr, hb⟩
  rw [hs']
  simp (dsimp := false) (implicitDefEqProofs := false) (disch := first | omega | assumption | (simp only [rL, Nat.reduceAdd]; try omega)) only [↓rD, rU, ev, ofConst, ofCell, ↓reduceIte, Nat.reduceEqDiff, Nat.reduceAdd, Nat.reduceSub, Nat.reduceMul, Nat.reduceLeDiff, Nat.reduceLT, Int.reduceNeg, Int.reduceToNat, Int.reduceAdd, Int.reduceSub, Int.reduceMul, Int.reduceLT, Int.reduceLE, Int.reduceEq, f0, f2]
  refine cond_join (fun f s' => s' = s ∧ ∃ y r : Nat, f 0 = .v (.int .u64 y) ∧ f 2 = .v (.int .i64 r) ∧ y < 2 ^ 16 ∧ r ≤ 48 ∧ r + blen y = blen x) ?_ ?_ ?_
  · intro h
    have h : 65536 ≤ y := by simp at h; omega
    simp (dsimp := false) (implicitDefEqProofs := false) (disch := first | omega | assumption | (simp only [rL, Nat.reduceAdd]; try omega)) only [↓rD, rU, ev, ofConst, ofCell, ↓reduceIte, Nat.reduceEqDiff, Nat.reduceAdd, Nat.reduceSub, Nat.reduceMul, Nat.reduceLeDiff, Nat.reduceLT, Int.reduceNeg, Int.reduceToNat, Int.reduceAdd, Int.reduceSub, Int.reduceMul, Int.reduceLT, Int.reduceLE, Int.reduceEq, f0, f2]
    exact ⟨y >>> 16, r + 16, rfl, by simp, by simp [Nat.shiftRight_eq_div_pow]; omega, by omega, by have := blen_shift y 16 h; rw [← hb, ← this]; omega⟩
  · intro h
    have h : y < 65536 := by simp at h; omega
    simp (dsimp := false) (implicitDefEqProofs := false) (disch := first | omega | assumption | (simp only [rL, Nat.reduceAdd]; try omega)) only [↓rD, rU, ev, ofConst, ofCell, ↓reduceIte, Nat.reduceEqDiff, Nat.reduceAdd, Nat.reduceSub, Nat.reduceMul, Nat.reduceLeDiff, Nat.reduceLT, Int.reduceNeg, Int.reduceToNat, Int.reduceAdd, Int.reduceSub, Int.reduceMul, Int.reduceLT, Int.reduceLE, Int.reduceEq, f0, f2]
    exact ⟨y, r, rfl, rfl, h, by omega, hb⟩
  rintro f s' ⟨hs', y, r, f0, f2, hy, hr, hb⟩
  rw [hs']
  simp (dsimp := false) (implicitDefEqProofs := false) (disch := first | omega | assumption | (simp only [rL, Nat.reduceAdd]; try omega)) only [↓rD, rU, ev, ofConst, ofCell, ↓reduceIte, Nat.reduceEqDiff, Nat.reduceAdd, Nat.reduceSub, Nat.reduceMul, Nat.reduceLeDiff, Nat.reduceLT, Int.reduceNeg, Int.reduceToNat, Int.reduceAdd, Int.reduceSub, Int.reduceMul, Int.reduceLT, Int.reduceLE, Int.reduceEq, f0, f2]
  refine cond_join (fun f s' => s' = s ∧ ∃ y r : Nat, f 0 = .v (.int .u64 y) ∧ f 2 = .v (.int .i64 r) ∧ y < 2 ^ 8 ∧ r ≤ 56 ∧ r + blen y = blen x) ?_ ?_ ?_
  · intro h
    have h : 256 ≤ y := by simp at h; omega
    simp (dsimp := false) (implicitDefEqProofs := false) (disch := first | omega | assumption | (simp only [rL, Nat.reduceAdd]; try omega)) only [↓rD, rU, ev, ofConst, ofCell, ↓reduceIte, Nat.reduceEqDiff, Nat.reduceAdd, Nat.reduceSub, Nat.reduceMul, Nat.reduceLeDiff, Nat.reduceLT, Int.reduceNeg, Int.reduceToNat, Int.reduceAdd, Int.reduceSub, Int.reduceMul, Int.reduceLT, Int.reduceLE, Int.reduceEq, f0, f2]
    exact ⟨y >>> 8, r + 8, rfl, by simp, by simp [Nat.shiftRight_eq_div_pow]; omega, by omega, by have := blen_shift y 8 h; rw [← hb, ← this]; omega⟩
  · intro h
    have h : y < 256 := by simp at h; omega
    simp (dsimp := false) (implicitDefEqProofs := false) (disch := first | omega | assumption | (simp only [rL, Nat.reduceAdd]; try omega)) only [↓rD, rU, ev, ofConst, ofCell, ↓reduceIte, Nat.reduceEqDiff, Nat.reduceAdd, Nat.reduceSub, Nat.reduceMul, Nat.reduceLeDiff, Nat.reduceLT, Int.reduceNeg, Int.reduceToNat, Int.reduceAdd, Int.reduceSub, Int.reduceMul, Int.reduceLT, Int.reduceLE, Int.reduceEq, f0, f2]
    exact ⟨y, r, rfl, rfl, h, by omega, hb⟩
  rintro f s' ⟨hs', y, r, f0, f2, hy, hr, hb⟩
  rw [hs']
  have hw : IntKind.u8.wrap (y : Int) = y := wrap_u8 (by omega) (by omega)
  have hl := blen_le y 8 hy
  simp (dsimp := false) (implicitDefEqProofs := false) (disch := first | omega | assumption | (simp only [rL, Nat.reduceAdd]; try omega)) only [↓rD, rU, ev, ofConst, ofCell, ↓reduceIte, Nat.reduceEqDiff, Nat.reduceAdd, Nat.reduceSub, Nat.reduceMul, Nat.reduceLeDiff, Nat.reduceLT, Int.reduceNeg, Int.reduceToNat, Int.reduceAdd, Int.reduceSub, Int.reduceMul, Int.reduceLT, Int.reduceLE, Int.reduceEq, f0, f2, hw]
  rw [tab_ok]
  · simp (dsimp := false) (implicitDefEqProofs := false) (disch := first | omega | assumption | (simp only [rL, Nat.reduceAdd]; try omega)) only [↓rD, rU, ev, ofConst, ofCell, ↓reduceIte, Nat.reduceEqDiff, Nat.reduceAdd, Nat.reduceSub, Nat.reduceMul, Nat.reduceLeDiff, Nat.reduceLT, Int.reduceNeg, Int.reduceToNat, Int.reduceAdd, Int.reduceSub, Int.reduceMul, Int.reduceLT, Int.reduceLE, Int.reduceEq, f0, f2]
    exact ⟨s, Hp.sub_refl, rfl, by rw [← hb]; simp⟩
  · decide
  · exact hy
end Go.Proofs.YtnnjjmiahcnbaaaGreat
set_option maxRecDepth 100000
namespace Go.Proofs.YtnnjjmiahcnbaaaGreat
open Go Go.Av
theorem len_spec (x : Nat) (hx : x < 2 ^ 64) (s : Hp) : AC Tryz.prog 106 [.v (.int .u64 x)] s fun r s' => s' = s ∧ r = .v (.int .i64 (blen x)) := by
  refine AC_run hm prep106 (by simp) ?_
  simp (dsimp := false) (implicitDefEqProofs := false) (disch := first | omega | assumption | (simp only [rL, Nat.reduceAdd]; try omega)) only [↓rD, rU, ev, ofConst, ofCell, ↓reduceIte, Nat.reduceEqDiff, Nat.reduceAdd, Nat.reduceSub, Nat.reduceMul, Nat.reduceLeDiff, Nat.reduceLT, Int.reduceNeg, Int.reduceToNat, Int.reduceAdd, Int.reduceSub, Int.reduceMul, Int.reduceLT, Int.reduceLE, Int.reduceEq]
  refine call_intro (len64_spec x hx _) ?_
  rintro _ _ ⟨rfl, rfl⟩
  simp (dsimp := false) (implicitDefEqProofs := false) (disch := first | omega | assumption | (simp only [rL, Nat.reduceAdd]; try omega)) only [↓rD, rU, ev, ofConst, ofCell, ↓reduceIte, Nat.reduceEqDiff, Nat.reduceAdd, Nat.reduceSub, Nat.reduceMul, Nat.reduceLeDiff, Nat.reduceLT, Int.reduceNeg, Int.reduceToNat, Int.reduceAdd, Int.reduceSub, Int.reduceMul, Int.reduceLT, Int.reduceLE, Int.reduceEq]
  exact ⟨_, Hp.sub_refl, rfl⟩
def half (n : Nat) : Nat := 2 ^ (n - 1).log2
theorem half_pos (n : Nat) : 0 < half n := Nat.pow_pos (by omega)
theorem half_lt (n : Nat) (h : 2 ≤ n) : half n < n := by
  have := Nat.log2_self_le (show n - 1 ≠ 0 by omega)
  unfold half; omega
theorem half_le (n : Nat) (h : 2 ≤ n) : n ≤ 2 * half n := by
  have := Nat.lt_log2_self (n := n - 1)
  rw [Nat.pow_succ] at this
  unfold half; omega
theorem half_spec (n : Nat) (h : 2 ≤ n) (hn : n ≤ 2 ^ 60) (s : Hp) : AC Tryz.prog 80 [.v (.int .i64 n)] s fun r s' => s' = s ∧ r = .v (.int .i64 (half n)) := by
  refine AC_run hm prep80 (by simp) ?_
  have e : (n : Int) - 1 = ((n - 1 : Nat) : Int) := by omega
  simp (dsimp := false) (implicitDefEqProofs := false) (disch := first | omega | assumption | (simp only [rL, Nat.reduceAdd]; try omega)) only [↓rD, rU, ev, ofConst, ofCell, ↓reduceIte, Nat.reduceEqDiff, Nat.reduceAdd, Nat.reduceSub, Nat.reduceMul, Nat.reduceLeDiff, Nat.reduceLT, Int.reduceNeg, Int.reduceToNat, Int.reduceAdd, Int.reduceSub, Int.reduceMul, Int.reduceLT, Int.reduceLE, Int.reduceEq, e]
  refine call_intro (len_spec (n - 1) (by omega) _) ?_
  rintro _ _ ⟨rfl, rfl⟩
  have hb : blen (n - 1) = (n - 1).log2 + 1 := by simp [blen]; omega
  have hl : (n - 1).log2 < 60 := (Nat.log2_lt (by omega)).2 (by omega)
  have e2 : ((blen (n - 1) : Nat) : Int) - 1 = ((n - 1).log2 : Nat) := by omega
  have hlt := half_lt n h
  have e3 : (2 : Int) ^ (n - 1).log2 = (half n : Nat) := by simp [half]
  simp (dsimp := false) (implicitDefEqProofs := false) (disch := first | omega | assumption | (simp only [rL, Nat.reduceAdd]; try omega)) only [↓rD, rU, ev, ofConst, ofCell, ↓reduceIte, Nat.reduceEqDiff, Nat.reduceAdd, Nat.reduceSub, Nat.reduceMul, Nat.reduceLeDiff, Nat.reduceLT, Int.reduceNeg, Int.reduceToNat, Int.reduceAdd, Int.reduceSub, Int.reduceMul, Int.reduceLT, Int.reduceLE, Int.reduceEq, e2, shl_i64, Int.one_mul, e3]
  exact ⟨_, Hp.sub_refl, rfl⟩
def leafB (d : List UInt8) : List UInt8 := preB 76 [d]
def nodeB (a b : List UInt8) : List UInt8 := preB 78 [a, b]
theorem leafB_length (d : List UInt8) (h : d.length = 32) : (leafB d).length = 41 := by simp [leafB, preB, chunk, eightB, h]
theorem nodeB_length (a b : List UInt8) (h : a.length = 32) (h2 : b.length = 32) : (nodeB a b).length = 81 := by simp [nodeB, preB, chunk, eightB, h, h2]
theorem leaf_spec (d : List UInt8) (hd : d.length = 32) (s : Hp) : AC Tryz.prog 96 [dg d] s fun r s' => ∃ o, Owned s s' 1 ((leafB d).map byteAV) o ∧ r = .sl ((leafB d).map byteAV) o := by
  refine AC_run hm prep96 (by simp) ?_
  have hl : (dg d).cells = d.map byteAV := rfl
  have hl2 : (d.map byteAV).length = 32 := by simp [hd]
  simp (dsimp := false) (implicitDefEqProofs := false) (disch := first | omega | assumption | (simp only [rL, Nat.reduceAdd]; try omega)) only [↓rD, rU, ev, ofConst, ofCell, ↓reduceIte, Nat.reduceEqDiff, Nat.reduceAdd, Nat.reduceSub, Nat.reduceMul, Nat.reduceLeDiff, Nat.reduceLT, Int.reduceNeg, Int.reduceToNat, Int.reduceAdd, Int.reduceSub, Int.reduceMul, Int.reduceLT, Int.reduceLE, Int.reduceEq, hl, hd]
  refine newK_intro fun l nl => ?_
  simp (dsimp := false) (implicitDefEqProofs := false) (disch := first | omega | assumption | (simp only [rL, Nat.reduceAdd]; try omega)) only [↓rD, rU, ev, ofConst, ofCell, ↓reduceIte, Nat.reduceEqDiff, Nat.reduceAdd, Nat.reduceSub, Nat.reduceMul, Nat.reduceLeDiff, Nat.reduceLT, Int.reduceNeg, Int.reduceToNat, Int.reduceAdd, Int.reduceSub, Int.reduceMul, Int.reduceLT, Int.reduceLE, Int.reduceEq, slcRA_one (Hp.set_same _ _ _) hl2, hl]
  refine bsl_own Hp.sub_refl ?_ fun o1 s1 h1 => ?_
  · simp [allLen, AV.cells]
  simp (dsimp := false) (implicitDefEqProofs := false) (disch := first | omega | assumption | (simp only [rL, Nat.reduceAdd]; try omega)) only [↓rD, rU, ev, ofConst, ofCell, ↓reduceIte, Nat.reduceEqDiff, Nat.reduceAdd, Nat.reduceSub, Nat.reduceMul, Nat.reduceLeDiff, Nat.reduceLT, Int.reduceNeg, Int.reduceToNat, Int.reduceAdd, Int.reduceSub, Int.reduceMul, Int.reduceLT, Int.reduceLE, Int.reduceEq]
  refine call_intro (pre_spec 76 [(d, .any)] o1 (by have := leafB_length d hd; simp only [leafB] at this; simp only [List.map_cons, List.map_nil, this]; omega) _) ?_
  rintro _ s2 ⟨o2, h2, rfl⟩
  simp (dsimp := false) (implicitDefEqProofs := false) (disch := first | omega | assumption | (simp only [rL, Nat.reduceAdd]; try omega)) only [↓rD, rU, ev, ofConst, ofCell, ↓reduceIte, Nat.reduceEqDiff, Nat.reduceAdd, Nat.reduceSub, Nat.reduceMul, Nat.reduceLeDiff, Nat.reduceLT, Int.reduceNeg, Int.reduceToNat, Int.reduceAdd, Int.reduceSub, Int.reduceMul, Int.reduceLT, Int.reduceLE, Int.reduceEq]
  exact ⟨s2, Hp.sub_refl, o2, h2.base (Hp.sub_trans (Hp.sub_new Hp.sub_refl nl) h1.sub), rfl⟩
theorem node_spec (a b : List UInt8) (ha : a.length = 32) (hb : b.length = 32) (s : Hp) : AC Tryz.prog 82 [dg a, dg b] s fun r s' => ∃ o, Owned s s' 1 ((nodeB a b).map byteAV) o ∧ r = .sl ((nodeB a b).map byteAV) o := by
  refine AC_run hm prep82 (by simp) ?_
  have hl (d) : (dg d).cells = d.map byteAV := rfl
  have ha2 : (a.map byteAV).length = 32 := by simp [ha]
  have hb2 : (b.map byteAV).length = 32 := by simp [hb]
  simp (dsimp := false) (implicitDefEqProofs := false) (disch := first | omega | assumption | (simp only [rL, Nat.reduceAdd]; try omega)) only [↓rD, rU, ev, ofConst, ofCell, ↓reduceIte, Nat.reduceEqDiff, Nat.reduceAdd, Nat.reduceSub, Nat.reduceMul, Nat.reduceLeDiff, Nat.reduceLT, Int.reduceNeg, Int.reduceToNat, Int.reduceAdd, Int.reduceSub, Int.reduceMul, Int.reduceLT, Int.reduceLE, Int.reduceEq, hl, ha]
  refine newK_intro fun l nl => ?_
  simp (dsimp := false) (implicitDefEqProofs := false) (disch := first | omega | assumption | (simp only [rL, Nat.reduceAdd]; try omega)) only [↓rD, rU, ev, ofConst, ofCell, ↓reduceIte, Nat.reduceEqDiff, Nat.reduceAdd, Nat.reduceSub, Nat.reduceMul, Nat.reduceLeDiff, Nat.reduceLT, Int.reduceNeg, Int.reduceToNat, Int.reduceAdd, Int.reduceSub, Int.reduceMul, Int.reduceLT, Int.reduceLE, Int.reduceEq, hl, hb]
  refine newK_intro fun l2 nl2 => ?_
  obtain ⟨dl, nl2⟩ := Hp.set_none nl2
  have hs1 : ((s.set l (.ro (a.map byteAV))).set l2 (.ro (b.map byteAV))) l = some (.ro (a.map byteAV)) := by rw [Hp.set_ne _ _ (Ne.symm dl)]; exact Hp.set_same _ _ _
  simp (dsimp := false) (implicitDefEqProofs := false) (disch := first | omega | assumption | (simp only [rL, Nat.reduceAdd]; try omega)) only [↓rD, rU, ev, ofConst, ofCell, ↓reduceIte, Nat.reduceEqDiff, Nat.reduceAdd, Nat.reduceSub, Nat.reduceMul, Nat.reduceLeDiff, Nat.reduceLT, Int.reduceNeg, Int.reduceToNat, Int.reduceAdd, Int.reduceSub, Int.reduceMul, Int.reduceLT, Int.reduceLE, Int.reduceEq, slcRA_one hs1 ha2, slcRA_one (Hp.set_same _ _ _) hb2, hl]
  refine bsl_own Hp.sub_refl ?_ fun o1 s1 h1 => ?_
  · simp [allLen, AV.cells]
  simp (dsimp := false) (implicitDefEqProofs := false) (disch := first | omega | assumption | (simp only [rL, Nat.reduceAdd]; try omega)) only [↓rD, rU, ev, ofConst, ofCell, ↓reduceIte, Nat.reduceEqDiff, Nat.reduceAdd, Nat.reduceSub, Nat.reduceMul, Nat.reduceLeDiff, Nat.reduceLT, Int.reduceNeg, Int.reduceToNat, Int.reduceAdd, Int.reduceSub, Int.reduceMul, Int.reduceLT, Int.reduceLE, Int.reduceEq]
  refine call_intro (pre_spec 78 [(a, .any), (b, .any)] o1 (by have := nodeB_length a b ha hb; simp only [nodeB] at this; simp only [List.map_cons, List.map_nil, this]; omega) _) ?_
  rintro _ s2 ⟨o2, h2, rfl⟩
  simp (dsimp := false) (implicitDefEqProofs := false) (disch := first | omega | assumption | (simp only [rL, Nat.reduceAdd]; try omega)) only [↓rD, rU, ev, ofConst, ofCell, ↓reduceIte, Nat.reduceEqDiff, Nat.reduceAdd, Nat.reduceSub, Nat.reduceMul, Nat.reduceLeDiff, Nat.reduceLT, Int.reduceNeg, Int.reduceToNat, Int.reduceAdd, Int.reduceSub, Int.reduceMul, Int.reduceLT, Int.reduceLE, Int.reduceEq]
  exact ⟨s2, Hp.sub_refl, o2, h2.base (Hp.sub_trans (Hp.sub_new (Hp.sub_new Hp.sub_refl nl) nl2) h1.sub), rfl⟩
theorem hash_spec (tag : UInt8) (ts : List (List UInt8 × Own)) (o : Own) (hlen : (preB tag (ts.map (·.1))).length ≤ 70368744177664) (s : Hp) :
    AC Tryz.prog 59 [.v (.int .u8 tag.toNat), .sl (TX ts) o] s fun r s' => s' = s ∧ r = dg (sha256 (preB tag (ts.map (·.1)))) := by
  refine AC_run hm prep59 (by simp) ?_
  simp (dsimp := false) (implicitDefEqProofs := false) (disch := first | omega | assumption | (simp only [rL, Nat.reduceAdd]; try omega)) only [↓rD, rU, ev, ofConst, ofCell, ↓reduceIte, Nat.reduceEqDiff, Nat.reduceAdd, Nat.reduceSub, Nat.reduceMul, Nat.reduceLeDiff, Nat.reduceLT, Int.reduceNeg, Int.reduceToNat, Int.reduceAdd, Int.reduceSub, Int.reduceMul, Int.reduceLT, Int.reduceLE, Int.reduceEq]
  refine newK_intro fun l nl => ?_
  simp (dsimp := false) (implicitDefEqProofs := false) (disch := first | omega | assumption | (simp only [rL, Nat.reduceAdd]; try omega)) only [↓rD, rU, ev, ofConst, ofCell, ↓reduceIte, Nat.reduceEqDiff, Nat.reduceAdd, Nat.reduceSub, Nat.reduceMul, Nat.reduceLeDiff, Nat.reduceLT, Int.reduceNeg, Int.reduceToNat, Int.reduceAdd, Int.reduceSub, Int.reduceMul, Int.reduceLT, Int.reduceLE, Int.reduceEq]
  refine call_intro (pre_spec tag ts o hlen _) ?_
  rintro _ s1 ⟨o1, h1, rfl⟩
  have hl := h1.sub _ _ (Hp.set_same _ _ _)
  rw [← Hp.set_eq hl]
  simp (dsimp := false) (implicitDefEqProofs := false) (disch := first | omega | assumption | (simp only [rL, Nat.reduceAdd]; try omega)) only [↓rD, rU, ev, ofConst, ofCell, ↓reduceIte, Nat.reduceEqDiff, Nat.reduceAdd, Nat.reduceSub, Nat.reduceMul, Nat.reduceLeDiff, Nat.reduceLT, Int.reduceNeg, Int.reduceToNat, Int.reduceAdd, Int.reduceSub, Int.reduceMul, Int.reduceLT, Int.reduceLE, Int.reduceEq]
  refine call_intro (sum_spec _ o1 hlen _) ?_
  rintro _ _ ⟨rfl, rfl⟩
  have hq := sha256_length (preB tag (ts.map (·.1)))
  have hq2 : ((sha256 (preB tag (ts.map (·.1)))).map byteAV).length = 32 := by rw [List.length_map, hq]
  generalize sha256 (preB tag (ts.map (·.1))) = d at *
  have hdc : (dg d).cells = d.map byteAV := rfl
  simp (dsimp := false) (implicitDefEqProofs := false) (disch := first | omega | assumption | (simp only [rL, Nat.reduceAdd]; try omega)) only [↓rD, rU, ev, ofConst, ofCell, ↓reduceIte, Nat.reduceEqDiff, Nat.reduceAdd, Nat.reduceSub, Nat.reduceMul, Nat.reduceLeDiff, Nat.reduceLT, Int.reduceNeg, Int.reduceToNat, Int.reduceAdd, Int.reduceSub, Int.reduceMul, Int.reduceLT, Int.reduceLE, Int.reduceEq, hdc, hq2, hq]
  refine ⟨s, Hp.sub_new (Hp.sub_trans (Hp.sub_new Hp.sub_refl nl) h1.sub) nl, rfl, ?_⟩
  rw [List.take_of_length_le (by omega)]; rfl
end Go.Proofs.YtnnjjmiahcnbaaaGreat
set_option maxRecDepth 100000
namespace Go.Proofs.YtnnjjmiahcnbaaaGreat
open Go Go.Av
def Digs (l : List (List UInt8)) : Prop := ∀ d ∈ l, d.length = 32
theorem Digs.take {l : List (List UInt8)} (h : Digs l) (n : Nat) : Digs (l.take n) := fun d hd => h d (List.mem_of_mem_take hd)
theorem Digs.drop {l : List (List UInt8)} (h : Digs l) (n : Nat) : Digs (l.drop n) := fun d hd => h d (List.mem_of_mem_drop hd)
theorem Digs.all {l : List (List UInt8)} (h : Digs l) : allLen 32 (l.map dg) := by
  intro e he
  obtain ⟨d, hd, rfl⟩ := List.mem_map.1 he
  simp [dg, AV.cells, h d hd]
theorem mapd_take {l : List (List UInt8)} {n : Nat} : (l.map dg).take n = (l.take n).map dg := by rw [List.map_take]
theorem mapd_drop {l : List (List UInt8)} {n : Nat} : (l.map dg).drop n = (l.drop n).map dg := by rw [List.map_drop]
theorem dg_cells {d : List UInt8} : (dg d).cells = d.map byteAV := rfl
theorem dg_fold {d : List UInt8} (h : d.length = 32) : (.agg ((d.take 32).map byteAV) : AV) = dg d := by rw [List.take_of_length_le (by simp [h])]; rfl
theorem elA_dg {d : List UInt8} (h : d.length = 32) : elA 32 (some (dg d)) = some (.rptr (d.map byteAV)) := by simp [elA, dg_cells, h]
def rootD (l : List (List UInt8)) : List UInt8 :=
  if h : l.length < 2 then (match l with | [] => sha256 (preB 72 []) | d :: _ => sha256 (leafB d))
  else sha256 (nodeB (rootD (l.take (half l.length))) (rootD (l.drop (half l.length))))
termination_by l.length
decreasing_by
  · have := half_lt l.length (by omega); simp; omega
  · have := half_pos l.length; simp; omega
theorem rootD_nil : rootD [] = sha256 (preB 72 []) := by rw [rootD]; rfl
theorem rootD_one (d : List UInt8) : rootD [d] = sha256 (leafB d) := by rw [rootD]; rfl
theorem rootD_node (l : List (List UInt8)) (h : 2 ≤ l.length) : rootD l = sha256 (nodeB (rootD (l.take (half l.length))) (rootD (l.drop (half l.length)))) := by
  rw [rootD, dif_neg (by omega)]
theorem rootD_length (l : List (List UInt8)) : (rootD l).length = 32 := by
  match l with
  | [] => rw [rootD_nil, sha256_length]
  | [d] => rw [rootD_one, sha256_length]
  | a :: b :: r => rw [rootD_node _ (by simp), sha256_length]
theorem root_spec : ∀ (N : Nat) (l : List (List UInt8)) (o : Own) (s : Hp), l.length = N → l.length ≤ 1099511627776 → Digs l → AC Tryz.prog 61 [.sl (l.map dg) o] s fun r s' => s' = s ∧ r = dg (rootD l) := by
  intro N
  induction N using Nat.strongRecOn with
  | _ N ih =>
  intro l o s hN hle hd
  refine AC_run hm prep61 (by simp) ?_
  simp (dsimp := false) (implicitDefEqProofs := false) (disch := first | omega | assumption | (simp only [rL, Nat.reduceAdd]; try omega)) only [↓rD, rU, ev, ofConst, ofCell, ↓reduceIte, Nat.reduceEqDiff, Nat.reduceAdd, Nat.reduceSub, Nat.reduceMul, Nat.reduceLeDiff, Nat.reduceLT, Int.reduceNeg, Int.reduceToNat, Int.reduceAdd, Int.reduceSub, Int.reduceMul, Int.reduceLT, Int.reduceLE, Int.reduceEq, rX]
  refine newK_intro fun l2 n2 => ?_
  simp (dsimp := false) (implicitDefEqProofs := false) (disch := first | omega | assumption | (simp only [rL, Nat.reduceAdd]; try omega)) only [↓rD, rU, ev, ofConst, ofCell, ↓reduceIte, Nat.reduceEqDiff, Nat.reduceAdd, Nat.reduceSub, Nat.reduceMul, Nat.reduceLeDiff, Nat.reduceLT, Int.reduceNeg, Int.reduceToNat, Int.reduceAdd, Int.reduceSub, Int.reduceMul, Int.reduceLT, Int.reduceLE, Int.reduceEq, rX]
  by_cases h0 : l.length = 0
  · obtain rfl := List.eq_nil_of_length_eq_zero h0
    simp (dsimp := false) (implicitDefEqProofs := false) (disch := first | omega | assumption | (simp only [rL, Nat.reduceAdd]; try omega)) only [↓rD, rU, ev, ofConst, ofCell, ↓reduceIte, Nat.reduceEqDiff, Nat.reduceAdd, Nat.reduceSub, Nat.reduceMul, Nat.reduceLeDiff, Nat.reduceLT, Int.reduceNeg, Int.reduceToNat, Int.reduceAdd, Int.reduceSub, Int.reduceMul, Int.reduceLT, Int.reduceLE, Int.reduceEq, rX]
    refine call_intro (hash_spec 72 [] .nil (by simp [preB]) _) ?_
    rintro _ _ ⟨rfl, rfl⟩
    have hq := sha256_length (preB 72 [])
    rw [rootD_nil]
    simp only [List.map_nil]
    generalize sha256 (preB 72 []) = d at *
    simp (dsimp := false) (implicitDefEqProofs := false) (disch := first | omega | assumption | (simp only [rL, Nat.reduceAdd]; try omega)) only [↓rD, rU, ev, ofConst, ofCell, ↓reduceIte, Nat.reduceEqDiff, Nat.reduceAdd, Nat.reduceSub, Nat.reduceMul, Nat.reduceLeDiff, Nat.reduceLT, Int.reduceNeg, Int.reduceToNat, Int.reduceAdd, Int.reduceSub, Int.reduceMul, Int.reduceLT, Int.reduceLE, Int.reduceEq, rX, dg_cells, hq]
    exact ⟨s, Hp.sub_new Hp.sub_refl n2, rfl, dg_fold hq⟩
  · by_cases h1 : l.length = 1
    · obtain ⟨d, rfl⟩ := List.length_eq_one_iff.1 h1
      have hd32 := hd d (by simp)
      simp (dsimp := false) (implicitDefEqProofs := false) (disch := first | omega | assumption | (simp only [rL, Nat.reduceAdd]; try omega)) only [↓rD, rU, ev, ofConst, ofCell, ↓reduceIte, Nat.reduceEqDiff, Nat.reduceAdd, Nat.reduceSub, Nat.reduceMul, Nat.reduceLeDiff, Nat.reduceLT, Int.reduceNeg, Int.reduceToNat, Int.reduceAdd, Int.reduceSub, Int.reduceMul, Int.reduceLT, Int.reduceLE, Int.reduceEq, rX, dg_cells, iaSA_sl, List.getElem?_cons_zero, Int.toNat_zero, hd32, dg_fold, elA_dg]
      refine call_intro (leaf_spec d hd32 _) ?_
      rintro _ s1 ⟨o1, h1, rfl⟩
      have hl := h1.sub _ _ (Hp.set_same _ _ _)
      rw [← Hp.set_eq hl]
      simp (dsimp := false) (implicitDefEqProofs := false) (disch := first | omega | assumption | (simp only [rL, Nat.reduceAdd]; try omega)) only [↓rD, rU, ev, ofConst, ofCell, ↓reduceIte, Nat.reduceEqDiff, Nat.reduceAdd, Nat.reduceSub, Nat.reduceMul, Nat.reduceLeDiff, Nat.reduceLT, Int.reduceNeg, Int.reduceToNat, Int.reduceAdd, Int.reduceSub, Int.reduceMul, Int.reduceLT, Int.reduceLE, Int.reduceEq, rX]
      refine call_intro (sum_spec (leafB d) o1 (by rw [leafB_length d hd32]; omega) _) ?_
      rintro _ _ ⟨rfl, rfl⟩
      have hq := sha256_length (leafB d)
      rw [rootD_one]
      generalize sha256 (leafB d) = e at *
      simp (dsimp := false) (implicitDefEqProofs := false) (disch := first | omega | assumption | (simp only [rL, Nat.reduceAdd]; try omega)) only [↓rD, rU, ev, ofConst, ofCell, ↓reduceIte, Nat.reduceEqDiff, Nat.reduceAdd, Nat.reduceSub, Nat.reduceMul, Nat.reduceLeDiff, Nat.reduceLT, Int.reduceNeg, Int.reduceToNat, Int.reduceAdd, Int.reduceSub, Int.reduceMul, Int.reduceLT, Int.reduceLE, Int.reduceEq, rX, dg_cells, hq, dg_fold]
      exact ⟨s, Hp.sub_new (Hp.sub_trans (Hp.sub_new Hp.sub_refl n2) h1.sub) n2, rfl⟩
    · have h2 : 2 ≤ l.length := by omega
      have hz : ¬ ((l.length : Nat) : Int) = 0 := by omega
      have ho : ¬ ((l.length : Nat) : Int) = 1 := by omega
      simp (dsimp := false) (implicitDefEqProofs := false) (disch := first | omega | assumption | (simp only [rL, Nat.reduceAdd]; try omega)) only [↓rD, rU, ev, ofConst, ofCell, ↓reduceIte, Nat.reduceEqDiff, Nat.reduceAdd, Nat.reduceSub, Nat.reduceMul, Nat.reduceLeDiff, Nat.reduceLT, Int.reduceNeg, Int.reduceToNat, Int.reduceAdd, Int.reduceSub, Int.reduceMul, Int.reduceLT, Int.reduceLE, Int.reduceEq, rX, hz, ho]
      refine call_intro (half_spec l.length h2 (by omega) _) ?_
      rintro _ _ ⟨rfl, rfl⟩
      have hlt := half_lt l.length h2
      have hpos := half_pos l.length
      have hall := hd.all
      have hle' : ((half l.length : Nat) : Int) ≤ ((l.map dg).length : Nat) := by rw [List.length_map]; omega
      have hr1 := rootD_length (l.take (half l.length))
      have hr2 := rootD_length (l.drop (half l.length))
      rw [rootD_node l h2]
      generalize hk : half l.length = k at *
      simp (dsimp := false) (implicitDefEqProofs := false) (disch := first | omega | assumption | (simp only [rL, Nat.reduceAdd]; try omega)) only [↓rD, rU, ev, ofConst, ofCell, ↓reduceIte, Nat.reduceEqDiff, Nat.reduceAdd, Nat.reduceSub, Nat.reduceMul, Nat.reduceLeDiff, Nat.reduceLT, Int.reduceNeg, Int.reduceToNat, Int.reduceAdd, Int.reduceSub, Int.reduceMul, Int.reduceLT, Int.reduceLE, Int.reduceEq, rX, mapd_take, mapd_drop]
      refine call_intro (ih _ (by rw [← hN, List.length_take]; omega) (l.take k) .any _ rfl (by rw [List.length_take]; omega) (hd.take k)) ?_
      rintro _ _ ⟨rfl, rfl⟩
      simp (dsimp := false) (implicitDefEqProofs := false) (disch := first | omega | assumption | (simp only [rL, Nat.reduceAdd]; try omega)) only [↓rD, rU, ev, ofConst, ofCell, ↓reduceIte, Nat.reduceEqDiff, Nat.reduceAdd, Nat.reduceSub, Nat.reduceMul, Nat.reduceLeDiff, Nat.reduceLT, Int.reduceNeg, Int.reduceToNat, Int.reduceAdd, Int.reduceSub, Int.reduceMul, Int.reduceLT, Int.reduceLE, Int.reduceEq, rX, mapd_take, mapd_drop]
      refine call_intro (ih _ (by rw [← hN, List.length_drop]; omega) (l.drop k) .any _ rfl (by rw [List.length_drop]; omega) (hd.drop k)) ?_
      rintro _ _ ⟨rfl, rfl⟩
      generalize rootD (l.take k) = p at *
      generalize rootD (l.drop k) = q at *
      simp (dsimp := false) (implicitDefEqProofs := false) (disch := first | omega | assumption | (simp only [rL, Nat.reduceAdd]; try omega)) only [↓rD, rU, ev, ofConst, ofCell, ↓reduceIte, Nat.reduceEqDiff, Nat.reduceAdd, Nat.reduceSub, Nat.reduceMul, Nat.reduceLeDiff, Nat.reduceLT, Int.reduceNeg, Int.reduceToNat, Int.reduceAdd, Int.reduceSub, Int.reduceMul, Int.reduceLT, Int.reduceLE, Int.reduceEq, rX]
      refine call_intro (node_spec p q hr1 hr2 _) ?_
      rintro _ s1 ⟨o1, h1, rfl⟩
      have hl := h1.sub _ _ (Hp.set_same _ _ _)
      rw [← Hp.set_eq hl]
      simp (dsimp := false) (implicitDefEqProofs := false) (disch := first | omega | assumption | (simp only [rL, Nat.reduceAdd]; try omega)) only [↓rD, rU, ev, ofConst, ofCell, ↓reduceIte, Nat.reduceEqDiff, Nat.reduceAdd, Nat.reduceSub, Nat.reduceMul, Nat.reduceLeDiff, Nat.reduceLT, Int.reduceNeg, Int.reduceToNat, Int.reduceAdd, Int.reduceSub, Int.reduceMul, Int.reduceLT, Int.reduceLE, Int.reduceEq, rX]
      refine call_intro (sum_spec (nodeB p q) o1 (by rw [nodeB_length p q hr1 hr2]; omega) _) ?_
      rintro _ _ ⟨rfl, rfl⟩
      have hq := sha256_length (nodeB p q)
      generalize sha256 (nodeB p q) = e at *
      simp (dsimp := false) (implicitDefEqProofs := false) (disch := first | omega | assumption | (simp only [rL, Nat.reduceAdd]; try omega)) only [↓rD, rU, ev, ofConst, ofCell, ↓reduceIte, Nat.reduceEqDiff, Nat.reduceAdd, Nat.reduceSub, Nat.reduceMul, Nat.reduceLeDiff, Nat.reduceLT, Int.reduceNeg, Int.reduceToNat, Int.reduceAdd, Int.reduceSub, Int.reduceMul, Int.reduceLT, Int.reduceLE, Int.reduceEq, rX, dg_cells, hq, dg_fold]
      exact ⟨s, Hp.sub_new (Hp.sub_trans (Hp.sub_new Hp.sub_refl n2) h1.sub) n2, rfl⟩
end Go.Proofs.YtnnjjmiahcnbaaaGreat
set_option maxRecDepth 100000
namespace Go.Proofs.YtnnjjmiahcnbaaaGreat
open Go Go.Av
def PC (ds : List (List UInt8)) (od : Own) (tso : List (List UInt8 × Own)) (ot : Own) (lk : Bool) : Ob := .cells [.sl (ds.map dg) od, .sl (TX tso) ot, .v (.bool lk)]
def PS (s0 : Hp) (l : Nat) (ds ts : List (List UInt8)) (lk : Bool) (s : Hp) : Prop :=
  ∃ od ot tso, tso.map (·.1) = ts ∧ Owned (s0.set l (PC ds od tso ot lk)) s 1 (TX tso) ot
theorem PS.new {s0 s : Hp} {l l2 : Nat} {ds ts : List (List UInt8)} {lk : Bool} {ob : Ob} (h : PS s0 l ds ts lk s) (hl : s l2 = none) : l2 ≠ l ∧ s0 l2 = none ∧ PS (s0.set l2 ob) l ds ts lk (s.set l2 ob) := by
  obtain ⟨od, ot, tso, h1, h2⟩ := h
  obtain ⟨hne, h0⟩ := Hp.set_none (Hp.sub_none h2.sub hl)
  refine ⟨hne, h0, od, ot, tso, h1, ?_⟩
  rw [Hp.set_set_comm _ hne]; exact h2.new hl
theorem PS.set {s0 s : Hp} {l l2 : Nat} {ds ts : List (List UInt8)} {lk : Bool} {ob ob' : Ob} (h : PS s0 l ds ts lk s) (hne : l2 ≠ l) (hl : s0 l2 = some ob') : PS (s0.set l2 ob) l ds ts lk (s.set l2 ob) := by
  obtain ⟨od, ot, tso, h1, h2⟩ := h
  refine ⟨od, ot, tso, h1, ?_⟩
  rw [Hp.set_set_comm _ hne]; exact h2.set (ob' := ob') (by rw [Hp.set_ne _ _ hne]; exact hl)
theorem PS.base {s0 s1 s : Hp} {l : Nat} {ds ts : List (List UInt8)} {lk : Bool} (h : PS s0 l ds ts lk s) (hs : s1.sub s0) : PS s1 l ds ts lk s := by
  obtain ⟨od, ot, tso, h1, h2⟩ := h
  exact ⟨od, ot, tso, h1, h2.base (Hp.sub_set hs)⟩
theorem PS.get {s0 s : Hp} {l l2 : Nat} {ds ts : List (List UInt8)} {lk : Bool} {ob : Ob} (h : PS s0 l ds ts lk s) (hne : l2 ≠ l) (hl : s0 l2 = some ob) : s l2 = some ob := by
  obtain ⟨od, ot, tso, h1, h2⟩ := h
  exact h2.sub _ _ (by rw [Hp.set_ne _ _ hne]; exact hl)
theorem PS.sub {s0 s : Hp} {l : Nat} {ds ts : List (List UInt8)} {lk : Bool} (h : PS s0 l ds ts lk s) (hl : s0 l = none) : s0.sub s := by
  obtain ⟨od, ot, tso, h1, h2⟩ := h
  exact Hp.sub_trans (Hp.sub_new Hp.sub_refl hl) h2.sub
theorem TX_all {tso : List (List UInt8 × Own)} : allLen 1 (TX tso) := by
  intro e he
  obtain ⟨p, _, rfl⟩ := List.mem_map.1 he
  rfl
theorem TX_snoc {tso : List (List UInt8 × Own)} {b : List UInt8} {o : Own} : TX tso ++ [.sl (b.map byteAV) o] = TX (tso ++ [(b, o)]) := by simp [TX]
theorem good_spec (s0 s : Hp) (l : Nat) (ds ts : List (List UInt8)) (lk : Bool) (h : PS s0 l ds ts lk s) :
    AC Tryz.prog 60 [.ptr l 0] s fun r s' => s' = s ∧ r = .v (.bool (!lk && decide (ds.length = 0))) := by
  obtain ⟨od, ot, tso, h1, h2⟩ := h
  have hl := h2.sub _ _ (Hp.set_same _ _ _)
  refine AC_run hm prep60 (by simp) ?_
  cases lk
  · simp (dsimp := false) (implicitDefEqProofs := false) (disch := first | omega | assumption | (simp only [rL, Nat.reduceAdd]; try omega)) only [↓rD, rU, ev, ofConst, ofCell, ↓reduceIte, Nat.reduceEqDiff, Nat.reduceAdd, Nat.reduceSub, Nat.reduceMul, Nat.reduceLeDiff, Nat.reduceLT, Int.reduceNeg, Int.reduceToNat, Int.reduceAdd, Int.reduceSub, Int.reduceMul, Int.reduceLT, Int.reduceLE, Int.reduceEq, rX, Hp.read_of hl, List.drop_succ_cons, Bool.not_false]
    refine ⟨_, Hp.sub_refl, rfl, ?_⟩
    simp
  · simp (dsimp := false) (implicitDefEqProofs := false) (disch := first | omega | assumption | (simp only [rL, Nat.reduceAdd]; try omega)) only [↓rD, rU, ev, ofConst, ofCell, ↓reduceIte, Nat.reduceEqDiff, Nat.reduceAdd, Nat.reduceSub, Nat.reduceMul, Nat.reduceLeDiff, Nat.reduceLT, Int.reduceNeg, Int.reduceToNat, Int.reduceAdd, Int.reduceSub, Int.reduceMul, Int.reduceLT, Int.reduceLE, Int.reduceEq, rX, Hp.read_of hl, List.drop_succ_cons, Bool.not_true]
    exact ⟨_, Hp.sub_refl, rfl, rfl⟩
theorem phash_spec (s0 s : Hp) (l : Nat) (ds ts : List (List UInt8)) (lk : Bool) (h : PS s0 l ds ts lk s) (b : List UInt8) (o : Own) (hb : b.length ≤ 70368744177664) (ht : ts.length ≤ 1000000) :
    AC Tryz.prog 81 [.ptr l 0, .sl (b.map byteAV) o] s fun r s' => r = dg (sha256 b) ∧ PS s0 l ds (ts ++ [b]) lk s' := by
  refine AC_run hm prep81 (by simp) ?_
  simp (dsimp := false) (implicitDefEqProofs := false) (disch := first | omega | assumption | (simp only [rL, Nat.reduceAdd]; try omega)) only [↓rD, rU, ev, ofConst, ofCell, ↓reduceIte, Nat.reduceEqDiff, Nat.reduceAdd, Nat.reduceSub, Nat.reduceMul, Nat.reduceLeDiff, Nat.reduceLT, Int.reduceNeg, Int.reduceToNat, Int.reduceAdd, Int.reduceSub, Int.reduceMul, Int.reduceLT, Int.reduceLE, Int.reduceEq, rX]
  refine newK_intro fun l4 n4 => ?_
  obtain ⟨d4, e4, h⟩ := h.new (ob := .cells (List.replicate 32 (.v (.int .u8 0)))) n4
  obtain ⟨od, ot, tso, h1, h2⟩ := h
  have hl := h2.sub _ _ (Hp.set_same _ _ _)
  have hlt : tso.length = ts.length := by rw [← h1, List.length_map]
  simp (dsimp := false) (implicitDefEqProofs := false) (disch := first | omega | assumption | (simp only [rL, Nat.reduceAdd]; try omega)) only [↓rD, rU, ev, ofConst, ofCell, ↓reduceIte, Nat.reduceEqDiff, Nat.reduceAdd, Nat.reduceSub, Nat.reduceMul, Nat.reduceLeDiff, Nat.reduceLT, Int.reduceNeg, Int.reduceToNat, Int.reduceAdd, Int.reduceSub, Int.reduceMul, Int.reduceLT, Int.reduceLE, Int.reduceEq, rX, Hp.read_of hl, List.drop_succ_cons]
  refine bsl_own Hp.sub_refl ?_ fun o2 s2 h3 => ?_
  · simp [allLen, AV.cells]
  simp (dsimp := false) (implicitDefEqProofs := false) (disch := first | omega | assumption | (simp only [rL, Nat.reduceAdd]; try omega)) only [↓rD, rU, ev, ofConst, ofCell, ↓reduceIte, Nat.reduceEqDiff, Nat.reduceAdd, Nat.reduceSub, Nat.reduceMul, Nat.reduceLeDiff, Nat.reduceLT, Int.reduceNeg, Int.reduceToNat, Int.reduceAdd, Int.reduceSub, Int.reduceMul, Int.reduceLT, Int.reduceLE, Int.reduceEq, rX, Hp.read_of hl]
  refine app_own (h2.mono h3.sub) TX_all (by simp [allLen, AV.cells]) (by simp [TX]; omega) (by simp [TX]; omega) fun o3 s3 h4 => ?_
  rw [TX_snoc] at h4 ⊢
  have hl3 := h4.sub _ _ (Hp.set_same _ _ _)
  simp (dsimp := false) (implicitDefEqProofs := false) (disch := first | omega | assumption | (simp only [rL, Nat.reduceAdd]; try omega)) only [↓rD, rU, ev, ofConst, ofCell, ↓reduceIte, Nat.reduceEqDiff, Nat.reduceAdd, Nat.reduceSub, Nat.reduceMul, Nat.reduceLeDiff, Nat.reduceLT, Int.reduceNeg, Int.reduceToNat, Int.reduceAdd, Int.reduceSub, Int.reduceMul, Int.reduceLT, Int.reduceLE, Int.reduceEq, rX, Hp.read_of hl3, Hp.stA_of hl3, List.drop_succ_cons]
  refine call_intro (sum_spec b o hb _) ?_
  rintro _ _ ⟨rfl, rfl⟩
  have hq := sha256_length b
  generalize sha256 b = e at *
  have hl4 : s3 l4 = some (.cells (List.replicate 32 (.v (.int .u8 0)))) := h4.sub _ _ (by rw [Hp.set_ne _ _ d4]; exact Hp.set_same _ _ _)
  simp (dsimp := false) (implicitDefEqProofs := false) (disch := first | omega | assumption | (simp only [rL, Nat.reduceAdd]; try omega)) only [↓rD, rU, ev, ofConst, ofCell, ↓reduceIte, Nat.reduceEqDiff, Nat.reduceAdd, Nat.reduceSub, Nat.reduceMul, Nat.reduceLeDiff, Nat.reduceLT, Int.reduceNeg, Int.reduceToNat, Int.reduceAdd, Int.reduceSub, Int.reduceMul, Int.reduceLT, Int.reduceLE, Int.reduceEq, rX, dg_cells, hq, dg_fold, Hp.stA_of hl4, Hp.read_of hl4]
  refine ⟨_, Hp.sub_refl, od, o3, tso ++ [(b, o)], by simp [h1], ?_⟩
  have h5 := h4.set (ob := PC ds od (tso ++ [(b, o)]) o3 lk) (Hp.set_same _ _ _)
  rw [Hp.set_set] at h5
  have h6 := h5.set (l := l4) (ob := .cells (e.map byteAV)) (by rw [Hp.set_ne _ _ d4]; exact Hp.set_same _ _ _)
  exact h6.base (Hp.sub_new (Hp.sub_set (Hp.sub_new Hp.sub_refl e4)) (by rw [Hp.set_ne _ _ d4]; exact e4))
def zd : List UInt8 := List.replicate 32 0
theorem zd_length : zd.length = 32 := rfl
theorem zd_cells : zd.map byteAV = List.replicate 32 (.v (.int .u8 0)) := rfl
def takeF (ds : List (List UInt8)) (lk : Bool) : List UInt8 × List (List UInt8) × Bool :=
  match ds.getLast? with
  | none => (zd, ds, true)
  | some d => (d, ds.dropLast, lk)
theorem take_spec (s0 s : Hp) (l : Nat) (ds ts : List (List UInt8)) (lk : Bool) (hd : Digs ds) (hdl : ds.length ≤ 1000000) (h : PS s0 l ds ts lk s) :
    AC Tryz.prog 79 [.ptr l 0] s fun r s' => r = dg (takeF ds lk).1 ∧ PS s0 l (takeF ds lk).2.1 ts (takeF ds lk).2.2 s' := by
  refine AC_run hm prep79 (by simp) ?_
  simp (dsimp := false) (implicitDefEqProofs := false) (disch := first | omega | assumption | (simp only [rL, Nat.reduceAdd]; try omega)) only [↓rD, rU, ev, ofConst, ofCell, ↓reduceIte, Nat.reduceEqDiff, Nat.reduceAdd, Nat.reduceSub, Nat.reduceMul, Nat.reduceLeDiff, Nat.reduceLT, Int.reduceNeg, Int.reduceToNat, Int.reduceAdd, Int.reduceSub, Int.reduceMul, Int.reduceLT, Int.reduceLE, Int.reduceEq, rX]
  refine newK_intro fun l2 n2 => ?_
  obtain ⟨d2, e2, h⟩ := h.new (ob := .cells (List.replicate 32 (.v (.int .u8 0)))) n2
  obtain ⟨od, ot, tso, h1, h2⟩ := h
  have hl := h2.sub _ _ (Hp.set_same _ _ _)
  have hs2 : ∀ x : Ob, (s.set l2 x).sub (s.set l2 x) := fun x => Hp.sub_refl
  rcases List.eq_nil_or_concat ds with rfl | ⟨q, d, hqd⟩
  · simp (dsimp := false) (implicitDefEqProofs := false) (disch := first | omega | assumption | (simp only [rL, Nat.reduceAdd]; try omega)) only [↓rD, rU, ev, ofConst, ofCell, ↓reduceIte, Nat.reduceEqDiff, Nat.reduceAdd, Nat.reduceSub, Nat.reduceMul, Nat.reduceLeDiff, Nat.reduceLT, Int.reduceNeg, Int.reduceToNat, Int.reduceAdd, Int.reduceSub, Int.reduceMul, Int.reduceLT, Int.reduceLE, Int.reduceEq, rX, Hp.read_of hl, Hp.stA_of hl, List.drop_succ_cons]
    refine ⟨_, Hp.sub_refl, rfl, od, ot, tso, h1, ?_⟩
    have h5 := h2.set (ob := PC [] od tso ot true) (Hp.set_same _ _ _)
    rw [Hp.set_set] at h5
    exact h5.base (Hp.sub_set (Hp.sub_new Hp.sub_refl e2))
  · simp only [List.concat_eq_append] at hqd
    subst hqd
    have ht : takeF (q ++ [d]) lk = (d, q, lk) := by simp [takeF]
    have hd32 : d.length = 32 := hd d (by simp)
    have hall := hd.all
    have hz : ¬ (((q ++ [d]).length : Nat) : Int) = 0 := by simp; omega
    have e1 : (((q ++ [d]).length : Nat) : Int) - 1 = (q.length : Nat) := by simp
    have he : ((q ++ [d]).map dg)[q.length]? = some (dg d) := by simp
    have htk : (q ++ [d]).take q.length = q := by simp
    have hle : ((q.length : Nat) : Int) ≤ (((q ++ [d]).map dg).length : Nat) := by simp; omega
    rw [ht]
    simp (dsimp := false) (implicitDefEqProofs := false) (disch := first | omega | assumption | (simp only [rL, Nat.reduceAdd]; try omega)) only [↓rD, rU, ev, ofConst, ofCell, ↓reduceIte, Nat.reduceEqDiff, Nat.reduceAdd, Nat.reduceSub, Nat.reduceMul, Nat.reduceLeDiff, Nat.reduceLT, Int.reduceNeg, Int.reduceToNat, Int.reduceAdd, Int.reduceSub, Int.reduceMul, Int.reduceLT, Int.reduceLE, Int.reduceEq, rX, Hp.read_of hl, Hp.stA_of hl, List.drop_succ_cons, hz, e1, iaSA_sl, he, elA_dg, dg_fold]
    refine newK_intro fun l3 n3 => ?_
    obtain ⟨d32, n3'⟩ := Hp.set_none n3
    have hb : PS (s0.set l2 (.cells (List.replicate 32 (.v (.int .u8 0))))) l (q ++ [d]) ts lk (s.set l2 (.cells (List.replicate 32 (.v (.int .u8 0))))) := ⟨od, ot, tso, h1, h2⟩
    obtain ⟨d3, e3, _⟩ := hb.new (ob := .cells (List.replicate 32 (.v (.int .u8 0)))) n3
    simp (dsimp := false) (implicitDefEqProofs := false) (disch := first | omega | assumption | (simp only [rL, Nat.reduceAdd]; try omega)) only [↓rD, rU, ev, ofConst, ofCell, ↓reduceIte, Nat.reduceEqDiff, Nat.reduceAdd, Nat.reduceSub, Nat.reduceMul, Nat.reduceLeDiff, Nat.reduceLT, Int.reduceNeg, Int.reduceToNat, Int.reduceAdd, Int.reduceSub, Int.reduceMul, Int.reduceLT, Int.reduceLE, Int.reduceEq, rX, Hp.read_of hl, Hp.stA_of hl, List.drop_succ_cons, hz, e1, iaSA_sl, he, elA_dg, dg_fold, dg_cells, hd32, mapd_take, htk]
    have k1 := h2.new (ob := .cells (List.replicate 32 (.v (.int .u8 0)))) n3
    have k2 := k1.set (l := l2) (ob := .cells (d.map byteAV)) (by rw [Hp.set_ne _ _ (Ne.symm d32), Hp.set_ne _ _ d2]; exact Hp.set_same _ _ _)
    rw [Hp.set_in1 d32, Hp.set_in2 (Ne.symm d2) d32] at k2
    have k3 := k2.set (l := l3) (ob := .cells (d.map byteAV)) (Hp.set_same _ _ _)
    rw [Hp.set_set, Hp.set_set] at k3
    have k4 := k3.set (l := l) (ob := PC q .any tso ot lk) (by rw [Hp.set_ne _ _ (Ne.symm d3)]; exact Hp.set_same _ _ _)
    rw [Hp.set_in1 d3] at k4
    refine ⟨_, Hp.sub_refl, .any, ot, tso, h1, k4.base (Hp.sub_new (Hp.sub_set (Hp.sub_new Hp.sub_refl e2)) ?_)⟩
    rw [Hp.set_ne _ _ d3]; exact (Hp.set_none e3).2
end Go.Proofs.YtnnjjmiahcnbaaaGreat
set_option maxRecDepth 100000
namespace Go.Proofs.YtnnjjmiahcnbaaaGreat
open Go Go.Av
def upF (n i : Nat) (x : List UInt8) (ds : List (List UInt8)) : List UInt8 × List (List UInt8) × List (List UInt8) × Bool :=
  if h : n < 2 then (sha256 (leafB x), ds, [leafB x], false)
  else if (takeF ds false).2.2 = true then (zd, (takeF ds false).2.1, [], true)
  else if i < half n then
    let u := upF (half n) i x (takeF ds false).2.1
    (sha256 (nodeB u.1 (takeF ds false).1), u.2.1, u.2.2.1 ++ [nodeB u.1 (takeF ds false).1], u.2.2.2)
  else
    let u := upF (n - half n) (i - half n) x (takeF ds false).2.1
    (sha256 (nodeB (takeF ds false).1 u.1), u.2.1, u.2.2.1 ++ [nodeB (takeF ds false).1 u.1], u.2.2.2)
termination_by n
decreasing_by
  · exact half_lt n (by omega)
  · have := half_pos n; omega
theorem takeF_digs {ds : List (List UInt8)} {lk : Bool} (h : Digs ds) : (takeF ds lk).1.length = 32 ∧ Digs (takeF ds lk).2.1 ∧ (takeF ds lk).2.1.length ≤ ds.length ∧ ((takeF ds lk).2.2 = false → (takeF ds lk).2.1.length + 1 = ds.length) := by
  rcases List.eq_nil_or_concat ds with rfl | ⟨q, d, hqd⟩
  · exact ⟨rfl, by simpa [takeF] using h, by simp [takeF], by simp [takeF]⟩
  · simp only [List.concat_eq_append] at hqd
    subst hqd
    have ht : takeF (q ++ [d]) lk = (d, q, lk) := by simp [takeF]
    rw [ht]
    exact ⟨h d (by simp), fun x hx => h x (by simp [hx]), by simp, by simp⟩
theorem upF_ok : ∀ (N n i : Nat) (x : List UInt8) (ds : List (List UInt8)), n = N → Digs ds → (upF n i x ds).1.length = 32 ∧ Digs (upF n i x ds).2.1 ∧ (upF n i x ds).2.1.length ≤ ds.length ∧ (upF n i x ds).2.2.1.length + (upF n i x ds).2.1.length ≤ ds.length + 1 := by
  intro N
  induction N using Nat.strongRecOn with
  | _ N ih =>
  intro n i x ds hN hd
  rw [upF]
  obtain ⟨t1, t2, t3, t4⟩ := takeF_digs (lk := false) hd
  split
  · exact ⟨sha256_length _, hd, Nat.le_refl _, by simp; omega⟩
  · split
    · exact ⟨rfl, t2, t3, by simp; omega⟩
    · rename_i h2 hlk
      have hlk' := t4 (by simpa using hlk)
      split
      · obtain ⟨u1, u2, u3, u4⟩ := ih (half n) (by have := half_lt n (by omega); omega) (half n) i x _ rfl t2
        exact ⟨sha256_length _, u2, by simp only; omega, by simp only [List.length_append, List.length_cons, List.length_nil]; omega⟩
      · obtain ⟨u1, u2, u3, u4⟩ := ih (n - half n) (by have := half_pos n; omega) (n - half n) (i - half n) x _ rfl t2
        exact ⟨sha256_length _, u2, by simp only; omega, by simp only [List.length_append, List.length_cons, List.length_nil]; omega⟩
theorem upF_leaf {n i : Nat} {x : List UInt8} {ds : List (List UInt8)} (h : n < 2) : upF n i x ds = (sha256 (leafB x), ds, [leafB x], false) := by rw [upF, dif_pos h]
theorem upF_lack {n i : Nat} {x : List UInt8} {ds : List (List UInt8)} (h : ¬ n < 2) {other : List UInt8} {d1 : List (List UInt8)} (ht : takeF ds false = (other, d1, true)) : upF n i x ds = (zd, d1, [], true) := by
  rw [upF, dif_neg h, ht]; simp
theorem upF_left {n i : Nat} {x : List UInt8} {ds : List (List UInt8)} (h : ¬ n < 2) {other : List UInt8} {d1 : List (List UInt8)} (ht : takeF ds false = (other, d1, false)) (hi : i < half n) :
    upF n i x ds = (sha256 (nodeB (upF (half n) i x d1).1 other), (upF (half n) i x d1).2.1, (upF (half n) i x d1).2.2.1 ++ [nodeB (upF (half n) i x d1).1 other], (upF (half n) i x d1).2.2.2) := by
  conv => lhs; rw [upF, dif_neg h, ht]
  simp [hi]
theorem upF_right {n i : Nat} {x : List UInt8} {ds : List (List UInt8)} (h : ¬ n < 2) {other : List UInt8} {d1 : List (List UInt8)} (ht : takeF ds false = (other, d1, false)) (hi : ¬ i < half n) :
    upF n i x ds = (sha256 (nodeB other (upF (n - half n) (i - half n) x d1).1), (upF (n - half n) (i - half n) x d1).2.1, (upF (n - half n) (i - half n) x d1).2.2.1 ++ [nodeB other (upF (n - half n) (i - half n) x d1).1], (upF (n - half n) (i - half n) x d1).2.2.2) := by
  conv => lhs; rw [upF, dif_neg h, ht]
  simp [hi]
theorem PS.read {s0 s : Hp} {l : Nat} {ds ts : List (List UInt8)} {lk : Bool} (h : PS s0 l ds ts lk s) : ∃ a b, s.read l = some [a, b, .v (.bool lk)] := by
  obtain ⟨od, ot, tso, h1, h2⟩ := h
  exact ⟨_, _, Hp.read_of (h2.sub _ _ (Hp.set_same _ _ _))⟩
def zc : Ob := .cells (List.replicate 32 (.v (.int .u8 0)))
def dc (d : List UInt8) : Ob := .cells (d.map byteAV)
theorem up_spec : ∀ (N n i : Nat) (x : List UInt8) (ds ts : List (List UInt8)) (s0 s : Hp) (l : Nat), n = N → 1 ≤ n → n ≤ 1099511627776 → i < n → x.length = 32 → Digs ds → ts.length + ds.length + 1 ≤ 1000000 → PS s0 l ds ts false s →
    AC Tryz.prog 100 [.ptr l 0, .v (.int .i64 n), .v (.int .i64 i), dg x] s fun r s' => r = dg (upF n i x ds).1 ∧ PS s0 l (upF n i x ds).2.1 (ts ++ (upF n i x ds).2.2.1) (upF n i x ds).2.2.2 s' := by
  intro N
  induction N using Nat.strongRecOn with
  | _ N ih =>
  intro n i x ds ts s0 s l hN hn1 hn hi hx hd hts h
  refine AC_run hm prep100 (by simp) ?_
  simp (dsimp := false) (implicitDefEqProofs := false) (disch := first | omega | assumption | (simp only [rL, Nat.reduceAdd]; try omega)) only [↓rD, rU, ev, ofConst, ofCell, ↓reduceIte, Nat.reduceEqDiff, Nat.reduceAdd, Nat.reduceSub, Nat.reduceMul, Nat.reduceLeDiff, Nat.reduceLT, Int.reduceNeg, Int.reduceToNat, Int.reduceAdd, Int.reduceSub, Int.reduceMul, Int.reduceLT, Int.reduceLE, Int.reduceEq, rX, dg_cells, dg_fold, List.drop_succ_cons, hx]
  refine newK_intro fun l7 n7 => ?_
  obtain ⟨d7, e7, h⟩ := h.new (ob := dc x) n7
  simp (dsimp := false) (implicitDefEqProofs := false) (disch := first | omega | assumption | (simp only [rL, Nat.reduceAdd]; try omega)) only [↓rD, rU, ev, ofConst, ofCell, ↓reduceIte, Nat.reduceEqDiff, Nat.reduceAdd, Nat.reduceSub, Nat.reduceMul, Nat.reduceLeDiff, Nat.reduceLT, Int.reduceNeg, Int.reduceToNat, Int.reduceAdd, Int.reduceSub, Int.reduceMul, Int.reduceLT, Int.reduceLE, Int.reduceEq, rX, dg_cells, dg_fold, List.drop_succ_cons, hx]
  refine newK_intro fun l8 n8 => ?_
  obtain ⟨d78, _⟩ := Hp.set_none n8
  obtain ⟨d8, e8, h⟩ := h.new (ob := zc) n8
  obtain ⟨_, e8⟩ := Hp.set_none e8
  simp (dsimp := false) (implicitDefEqProofs := false) (disch := first | omega | assumption | (simp only [rL, Nat.reduceAdd]; try omega)) only [↓rD, rU, ev, ofConst, ofCell, ↓reduceIte, Nat.reduceEqDiff, Nat.reduceAdd, Nat.reduceSub, Nat.reduceMul, Nat.reduceLeDiff, Nat.reduceLT, Int.reduceNeg, Int.reduceToNat, Int.reduceAdd, Int.reduceSub, Int.reduceMul, Int.reduceLT, Int.reduceLE, Int.reduceEq, rX, dg_cells, dg_fold, List.drop_succ_cons]
  by_cases h1 : n < 2
  · obtain rfl : n = 1 := by omega
    simp (dsimp := false) (implicitDefEqProofs := false) (disch := first | omega | assumption | (simp only [rL, Nat.reduceAdd]; try omega)) only [↓rD, rU, ev, ofConst, ofCell, ↓reduceIte, Nat.reduceEqDiff, Nat.reduceAdd, Nat.reduceSub, Nat.reduceMul, Nat.reduceLeDiff, Nat.reduceLT, Int.reduceNeg, Int.reduceToNat, Int.reduceAdd, Int.reduceSub, Int.reduceMul, Int.reduceLT, Int.reduceLE, Int.reduceEq, rX, dg_cells, dg_fold, List.drop_succ_cons, hx]
    refine call_intro (leaf_spec x hx _) ?_
    rintro _ s1 ⟨o1, k1, rfl⟩
    simp (dsimp := false) (implicitDefEqProofs := false) (disch := first | omega | assumption | (simp only [rL, Nat.reduceAdd]; try omega)) only [↓rD, rU, ev, ofConst, ofCell, ↓reduceIte, Nat.reduceEqDiff, Nat.reduceAdd, Nat.reduceSub, Nat.reduceMul, Nat.reduceLeDiff, Nat.reduceLT, Int.reduceNeg, Int.reduceToNat, Int.reduceAdd, Int.reduceSub, Int.reduceMul, Int.reduceLT, Int.reduceLE, Int.reduceEq, rX, dg_cells, dg_fold, List.drop_succ_cons]
    obtain ⟨od, ot, tso, q1, q2⟩ := h
    have h : PS ((s0.set l7 (dc x)).set l8 zc) l ds ts false s1 := ⟨od, ot, tso, q1, q2.mono k1.sub⟩
    refine call_intro (phash_spec _ s1 l ds ts false h (leafB x) o1 (by rw [leafB_length x hx]; omega) (by omega)) ?_
    rintro _ s2 ⟨rfl, h⟩
    have hl8 : s2 l8 = some zc := h.get d8 (Hp.set_same _ _ _)
    have hq := sha256_length (leafB x)
    generalize hge : sha256 (leafB x) = e at *
    unfold zc at hl8
    simp (dsimp := false) (implicitDefEqProofs := false) (disch := first | omega | assumption | (simp only [rL, Nat.reduceAdd]; try omega)) only [↓rD, rU, ev, ofConst, ofCell, ↓reduceIte, Nat.reduceEqDiff, Nat.reduceAdd, Nat.reduceSub, Nat.reduceMul, Nat.reduceLeDiff, Nat.reduceLT, Int.reduceNeg, Int.reduceToNat, Int.reduceAdd, Int.reduceSub, Int.reduceMul, Int.reduceLT, Int.reduceLE, Int.reduceEq, rX, dg_cells, dg_fold, List.drop_succ_cons, hq, Hp.stA_of hl8, Hp.read_of hl8]
    have h9 := h.set (ob := dc e) d8 (Hp.set_same _ _ _)
    rw [upF_leaf h1]
    refine ⟨_, Hp.sub_refl, ?_, h9.base (Hp.sub_new (Hp.sub_new (Hp.sub_new Hp.sub_refl e7) e8) e8)⟩
    rw [hge]
  · have hn1 : ¬ (n : Int) = 1 := by omega
    simp (dsimp := false) (implicitDefEqProofs := false) (disch := first | omega | assumption | (simp only [rL, Nat.reduceAdd]; try omega)) only [↓rD, rU, ev, ofConst, ofCell, ↓reduceIte, Nat.reduceEqDiff, Nat.reduceAdd, Nat.reduceSub, Nat.reduceMul, Nat.reduceLeDiff, Nat.reduceLT, Int.reduceNeg, Int.reduceToNat, Int.reduceAdd, Int.reduceSub, Int.reduceMul, Int.reduceLT, Int.reduceLE, Int.reduceEq, rX, dg_cells, dg_fold, List.drop_succ_cons, hn1]
    refine call_intro (half_spec n (by omega) (by omega) _) ?_
    rintro _ _ ⟨rfl, rfl⟩
    have hlt := half_lt n (by omega)
    have hpos := half_pos n
    simp (dsimp := false) (implicitDefEqProofs := false) (disch := first | omega | assumption | (simp only [rL, Nat.reduceAdd]; try omega)) only [↓rD, rU, ev, ofConst, ofCell, ↓reduceIte, Nat.reduceEqDiff, Nat.reduceAdd, Nat.reduceSub, Nat.reduceMul, Nat.reduceLeDiff, Nat.reduceLT, Int.reduceNeg, Int.reduceToNat, Int.reduceAdd, Int.reduceSub, Int.reduceMul, Int.reduceLT, Int.reduceLE, Int.reduceEq, rX, dg_cells, dg_fold, List.drop_succ_cons]
    refine call_intro (take_spec _ _ l ds ts false hd (by omega) h) ?_
    rintro _ s1 ⟨rfl, h⟩
    obtain ⟨t1, t2, t3, t4⟩ := takeF_digs (lk := false) hd
    generalize htk : takeF ds false = tk at *
    obtain ⟨other, ds1, lk1⟩ := tk
    simp only at t1 t2 t3 t4 h ⊢
    simp (dsimp := false) (implicitDefEqProofs := false) (disch := first | omega | assumption | (simp only [rL, Nat.reduceAdd]; try omega)) only [↓rD, rU, ev, ofConst, ofCell, ↓reduceIte, Nat.reduceEqDiff, Nat.reduceAdd, Nat.reduceSub, Nat.reduceMul, Nat.reduceLeDiff, Nat.reduceLT, Int.reduceNeg, Int.reduceToNat, Int.reduceAdd, Int.reduceSub, Int.reduceMul, Int.reduceLT, Int.reduceLE, Int.reduceEq, rX, dg_cells, dg_fold, List.drop_succ_cons, t1]
    refine newK_intro fun l10 n10 => ?_
    have g7 : s1 l7 = some (dc x) := h.get d7 (by rw [Hp.set_ne _ _ (Ne.symm d78)]; exact Hp.set_same _ _ _)
    have g8 : s1 l8 = some zc := h.get d8 (Hp.set_same _ _ _)
    have d107 : l10 ≠ l7 := by rintro rfl; rw [n10] at g7; cases g7
    have d108 : l10 ≠ l8 := by rintro rfl; rw [n10] at g8; cases g8
    obtain ⟨d10, e10, h⟩ := h.new (ob := dc other) n10
    obtain ⟨_, e10⟩ := Hp.set_none e10
    obtain ⟨_, e10⟩ := Hp.set_none e10
    obtain ⟨ra, rb, hr⟩ := h.read
    unfold zc at g8
    unfold dc at g7
    simp (dsimp := false) (implicitDefEqProofs := false) (disch := first | omega | assumption | (simp only [rL, Nat.reduceAdd]; try omega)) only [↓rD, rU, ev, ofConst, ofCell, ↓reduceIte, Nat.reduceEqDiff, Nat.reduceAdd, Nat.reduceSub, Nat.reduceMul, Nat.reduceLeDiff, Nat.reduceLT, Int.reduceNeg, Int.reduceToNat, Int.reduceAdd, Int.reduceSub, Int.reduceMul, Int.reduceLT, Int.reduceLE, Int.reduceEq, rX, dg_cells, dg_fold, List.drop_succ_cons, t1]
    have hr' : s1.read l = some [ra, rb, .v (.bool lk1)] := by rw [← hr, Hp.read_set_ne (Ne.symm d10)]
    simp (dsimp := false) (implicitDefEqProofs := false) (disch := first | omega | assumption | (simp only [rL, Nat.reduceAdd]; try omega)) only [↓rD, rU, ev, ofConst, ofCell, ↓reduceIte, Nat.reduceEqDiff, Nat.reduceAdd, Nat.reduceSub, Nat.reduceMul, Nat.reduceLeDiff, Nat.reduceLT, Int.reduceNeg, Int.reduceToNat, Int.reduceAdd, Int.reduceSub, Int.reduceMul, Int.reduceLT, Int.reduceLE, Int.reduceEq, rX, dg_cells, dg_fold, List.drop_succ_cons, t1, hr']
    have hbase : s0.sub (((s0.set l7 (dc x)).set l8 zc).set l10 (dc other)) := Hp.sub_new (Hp.sub_new (Hp.sub_new Hp.sub_refl e7) e8) e10
    cases lk1
    · simp (dsimp := false) (implicitDefEqProofs := false) (disch := first | omega | assumption | (simp only [rL, Nat.reduceAdd]; try omega)) only [↓rD, rU, ev, ofConst, ofCell, ↓reduceIte, Nat.reduceEqDiff, Nat.reduceAdd, Nat.reduceSub, Nat.reduceMul, Nat.reduceLeDiff, Nat.reduceLT, Int.reduceNeg, Int.reduceToNat, Int.reduceAdd, Int.reduceSub, Int.reduceMul, Int.reduceLT, Int.reduceLE, Int.reduceEq, rX, dg_cells, dg_fold, List.drop_succ_cons]
      by_cases hik : i < half n
      · have hik' : (i : Int) < (half n : Nat) := by omega
        simp (dsimp := false) (implicitDefEqProofs := false) (disch := first | omega | assumption | (simp only [rL, Nat.reduceAdd]; try omega)) only [↓rD, rU, ev, ofConst, ofCell, ↓reduceIte, Nat.reduceEqDiff, Nat.reduceAdd, Nat.reduceSub, Nat.reduceMul, Nat.reduceLeDiff, Nat.reduceLT, Int.reduceNeg, Int.reduceToNat, Int.reduceAdd, Int.reduceSub, Int.reduceMul, Int.reduceLT, Int.reduceLE, Int.reduceEq, rX, dg_cells, dg_fold, List.drop_succ_cons, hik', Hp.read_of g7, Ne.symm d107, hx]
        obtain ⟨u1, u2, u3, u4⟩ := upF_ok _ (half n) i x ds1 rfl t2
        have t5 := t4 rfl
        refine call_intro (ih (half n) (by omega) (half n) i x ds1 ts _ _ l rfl hpos (by omega) hik hx t2 (by omega) h) ?_
        rintro _ s2 ⟨rfl, h⟩
        have hu := upF_left (x := x) h1 htk hik
        generalize upF (half n) i x ds1 = u at *
        obtain ⟨ub, ud, ut, ul⟩ := u
        simp only at u1 u2 u3 u4 h hu ⊢
        simp (dsimp := false) (implicitDefEqProofs := false) (disch := first | omega | assumption | (simp only [rL, Nat.reduceAdd]; try omega)) only [↓rD, rU, ev, ofConst, ofCell, ↓reduceIte, Nat.reduceEqDiff, Nat.reduceAdd, Nat.reduceSub, Nat.reduceMul, Nat.reduceLeDiff, Nat.reduceLT, Int.reduceNeg, Int.reduceToNat, Int.reduceAdd, Int.reduceSub, Int.reduceMul, Int.reduceLT, Int.reduceLE, Int.reduceEq, rX, dg_cells, dg_fold, List.drop_succ_cons, u1]
        refine newK_intro fun l11 n11 => ?_
        have g8 : s2 l8 = some zc := h.get d8 (by rw [Hp.set_ne _ _ (Ne.symm d108)]; exact Hp.set_same _ _ _)
        have g10 : s2 l10 = some (dc other) := h.get d10 (Hp.set_same _ _ _)
        have d118 : l11 ≠ l8 := by rintro rfl; rw [n11] at g8; cases g8
        have d1110 : l11 ≠ l10 := by rintro rfl; rw [n11] at g10; cases g10
        obtain ⟨d11, e11, h⟩ := h.new (ob := dc ub) n11
        simp (dsimp := false) (implicitDefEqProofs := false) (disch := first | omega | assumption | (simp only [rL, Nat.reduceAdd]; try omega)) only [↓rD, rU, ev, ofConst, ofCell, ↓reduceIte, Nat.reduceEqDiff, Nat.reduceAdd, Nat.reduceSub, Nat.reduceMul, Nat.reduceLeDiff, Nat.reduceLT, Int.reduceNeg, Int.reduceToNat, Int.reduceAdd, Int.reduceSub, Int.reduceMul, Int.reduceLT, Int.reduceLE, Int.reduceEq, rX, dg_cells, dg_fold, List.drop_succ_cons, u1]
        unfold zc at g8
        unfold dc at g10
        simp (dsimp := false) (implicitDefEqProofs := false) (disch := first | omega | assumption | (simp only [rL, Nat.reduceAdd]; try omega)) only [↓rD, rU, ev, ofConst, ofCell, ↓reduceIte, Nat.reduceEqDiff, Nat.reduceAdd, Nat.reduceSub, Nat.reduceMul, Nat.reduceLeDiff, Nat.reduceLT, Int.reduceNeg, Int.reduceToNat, Int.reduceAdd, Int.reduceSub, Int.reduceMul, Int.reduceLT, Int.reduceLE, Int.reduceEq, rX, dg_cells, dg_fold, List.drop_succ_cons, Hp.read_of g10, t1, u1]
        refine call_intro (node_spec ub other u1 t1 _) ?_
        rintro _ s3 ⟨o3, k3, rfl⟩
        simp (dsimp := false) (implicitDefEqProofs := false) (disch := first | omega | assumption | (simp only [rL, Nat.reduceAdd]; try omega)) only [↓rD, rU, ev, ofConst, ofCell, ↓reduceIte, Nat.reduceEqDiff, Nat.reduceAdd, Nat.reduceSub, Nat.reduceMul, Nat.reduceLeDiff, Nat.reduceLT, Int.reduceNeg, Int.reduceToNat, Int.reduceAdd, Int.reduceSub, Int.reduceMul, Int.reduceLT, Int.reduceLE, Int.reduceEq, rX, dg_cells, dg_fold, List.drop_succ_cons]
        obtain ⟨od, ot, tso, q1, q2⟩ := h
        have h : PS ((((s0.set l7 (dc x)).set l8 zc).set l10 (dc other)).set l11 (dc ub)) l ud (ts ++ ut) ul s3 := ⟨od, ot, tso, q1, q2.mono k3.sub⟩
        refine call_intro (phash_spec _ s3 l ud (ts ++ ut) ul h (nodeB ub other) o3 (by rw [nodeB_length ub other u1 t1]; omega) (by simp only [List.length_append]; omega)) ?_
        rintro _ s4 ⟨rfl, h⟩
        have g8 : s4 l8 = some zc := h.get d8 (by rw [Hp.set_ne _ _ (Ne.symm d118), Hp.set_ne _ _ (Ne.symm d108)]; exact Hp.set_same _ _ _)
        have hq := sha256_length (nodeB ub other)
        generalize hge : sha256 (nodeB ub other) = e at *
        unfold zc at g8
        simp (dsimp := false) (implicitDefEqProofs := false) (disch := first | omega | assumption | (simp only [rL, Nat.reduceAdd]; try omega)) only [↓rD, rU, ev, ofConst, ofCell, ↓reduceIte, Nat.reduceEqDiff, Nat.reduceAdd, Nat.reduceSub, Nat.reduceMul, Nat.reduceLeDiff, Nat.reduceLT, Int.reduceNeg, Int.reduceToNat, Int.reduceAdd, Int.reduceSub, Int.reduceMul, Int.reduceLT, Int.reduceLE, Int.reduceEq, rX, dg_cells, dg_fold, List.drop_succ_cons, hq, Hp.stA_of g8, Hp.read_of g8]
        have h9 := h.set (l2 := l8) (ob := dc e) (ob' := zc) d8 (by rw [Hp.set_ne _ _ (Ne.symm d118), Hp.set_ne _ _ (Ne.symm d108)]; exact Hp.set_same _ _ _)
        rw [List.append_assoc] at h9
        refine ⟨_, Hp.sub_refl, ?_⟩
        rw [hu]
        exact ⟨rfl, h9.base (Hp.sub_new (Hp.sub_new hbase (Hp.sub_none hbase e11)) e8)⟩
      · have hik' : ¬ (i : Int) < (half n : Nat) := by omega
        have ei : (i : Int) - (half n : Nat) = ((i - half n : Nat) : Int) := by omega
        have en : (n : Int) - (half n : Nat) = ((n - half n : Nat) : Int) := by omega
        simp (dsimp := false) (implicitDefEqProofs := false) (disch := first | omega | assumption | (simp only [rL, Nat.reduceAdd]; try omega)) only [↓rD, rU, ev, ofConst, ofCell, ↓reduceIte, Nat.reduceEqDiff, Nat.reduceAdd, Nat.reduceSub, Nat.reduceMul, Nat.reduceLeDiff, Nat.reduceLT, Int.reduceNeg, Int.reduceToNat, Int.reduceAdd, Int.reduceSub, Int.reduceMul, Int.reduceLT, Int.reduceLE, Int.reduceEq, rX, dg_cells, dg_fold, List.drop_succ_cons, hik', Hp.read_of g7, Ne.symm d107, hx, ei, en]
        obtain ⟨u1, u2, u3, u4⟩ := upF_ok _ (n - half n) (i - half n) x ds1 rfl t2
        have t5 := t4 rfl
        refine call_intro (ih (n - half n) (by omega) (n - half n) (i - half n) x ds1 ts _ _ l rfl (by omega) (by omega) (by omega) hx t2 (by omega) h) ?_
        rintro _ s2 ⟨rfl, h⟩
        have hu := upF_right (x := x) h1 htk hik
        generalize upF (n - half n) (i - half n) x ds1 = u at *
        obtain ⟨ub, ud, ut, ul⟩ := u
        simp only at u1 u2 u3 u4 h hu ⊢
        simp (dsimp := false) (implicitDefEqProofs := false) (disch := first | omega | assumption | (simp only [rL, Nat.reduceAdd]; try omega)) only [↓rD, rU, ev, ofConst, ofCell, ↓reduceIte, Nat.reduceEqDiff, Nat.reduceAdd, Nat.reduceSub, Nat.reduceMul, Nat.reduceLeDiff, Nat.reduceLT, Int.reduceNeg, Int.reduceToNat, Int.reduceAdd, Int.reduceSub, Int.reduceMul, Int.reduceLT, Int.reduceLE, Int.reduceEq, rX, dg_cells, dg_fold, List.drop_succ_cons, u1]
        refine newK_intro fun l11 n11 => ?_
        have g8 : s2 l8 = some zc := h.get d8 (by rw [Hp.set_ne _ _ (Ne.symm d108)]; exact Hp.set_same _ _ _)
        have g10 : s2 l10 = some (dc other) := h.get d10 (Hp.set_same _ _ _)
        have d118 : l11 ≠ l8 := by rintro rfl; rw [n11] at g8; cases g8
        have d1110 : l11 ≠ l10 := by rintro rfl; rw [n11] at g10; cases g10
        obtain ⟨d11, e11, h⟩ := h.new (ob := dc ub) n11
        simp (dsimp := false) (implicitDefEqProofs := false) (disch := first | omega | assumption | (simp only [rL, Nat.reduceAdd]; try omega)) only [↓rD, rU, ev, ofConst, ofCell, ↓reduceIte, Nat.reduceEqDiff, Nat.reduceAdd, Nat.reduceSub, Nat.reduceMul, Nat.reduceLeDiff, Nat.reduceLT, Int.reduceNeg, Int.reduceToNat, Int.reduceAdd, Int.reduceSub, Int.reduceMul, Int.reduceLT, Int.reduceLE, Int.reduceEq, rX, dg_cells, dg_fold, List.drop_succ_cons, u1]
        unfold zc at g8
        unfold dc at g10
        simp (dsimp := false) (implicitDefEqProofs := false) (disch := first | omega | assumption | (simp only [rL, Nat.reduceAdd]; try omega)) only [↓rD, rU, ev, ofConst, ofCell, ↓reduceIte, Nat.reduceEqDiff, Nat.reduceAdd, Nat.reduceSub, Nat.reduceMul, Nat.reduceLeDiff, Nat.reduceLT, Int.reduceNeg, Int.reduceToNat, Int.reduceAdd, Int.reduceSub, Int.reduceMul, Int.reduceLT, Int.reduceLE, Int.reduceEq, rX, dg_cells, dg_fold, List.drop_succ_cons, Hp.read_of g10, t1, u1]
        refine call_intro (node_spec other ub t1 u1 _) ?_
        rintro _ s3 ⟨o3, k3, rfl⟩
        simp (dsimp := false) (implicitDefEqProofs := false) (disch := first | omega | assumption | (simp only [rL, Nat.reduceAdd]; try omega)) only [↓rD, rU, ev, ofConst, ofCell, ↓reduceIte, Nat.reduceEqDiff, Nat.reduceAdd, Nat.reduceSub, Nat.reduceMul, Nat.reduceLeDiff, Nat.reduceLT, Int.reduceNeg, Int.reduceToNat, Int.reduceAdd, Int.reduceSub, Int.reduceMul, Int.reduceLT, Int.reduceLE, Int.reduceEq, rX, dg_cells, dg_fold, List.drop_succ_cons]
        obtain ⟨od, ot, tso, q1, q2⟩ := h
        have h : PS ((((s0.set l7 (dc x)).set l8 zc).set l10 (dc other)).set l11 (dc ub)) l ud (ts ++ ut) ul s3 := ⟨od, ot, tso, q1, q2.mono k3.sub⟩
        refine call_intro (phash_spec _ s3 l ud (ts ++ ut) ul h (nodeB other ub) o3 (by rw [nodeB_length other ub t1 u1]; omega) (by simp only [List.length_append]; omega)) ?_
        rintro _ s4 ⟨rfl, h⟩
        have g8 : s4 l8 = some zc := h.get d8 (by rw [Hp.set_ne _ _ (Ne.symm d118), Hp.set_ne _ _ (Ne.symm d108)]; exact Hp.set_same _ _ _)
        have hq := sha256_length (nodeB other ub)
        generalize hge : sha256 (nodeB other ub) = e at *
        unfold zc at g8
        simp (dsimp := false) (implicitDefEqProofs := false) (disch := first | omega | assumption | (simp only [rL, Nat.reduceAdd]; try omega)) only [↓rD, rU, ev, ofConst, ofCell, ↓reduceIte, Nat.reduceEqDiff, Nat.reduceAdd, Nat.reduceSub, Nat.reduceMul, Nat.reduceLeDiff, Nat.reduceLT, Int.reduceNeg, Int.reduceToNat, Int.reduceAdd, Int.reduceSub, Int.reduceMul, Int.reduceLT, Int.reduceLE, Int.reduceEq, rX, dg_cells, dg_fold, List.drop_succ_cons, hq, Hp.stA_of g8, Hp.read_of g8]
        have h9 := h.set (l2 := l8) (ob := dc e) (ob' := zc) d8 (by rw [Hp.set_ne _ _ (Ne.symm d118), Hp.set_ne _ _ (Ne.symm d108)]; exact Hp.set_same _ _ _)
        rw [List.append_assoc] at h9
        refine ⟨_, Hp.sub_refl, ?_⟩
        rw [hu]
        exact ⟨rfl, h9.base (Hp.sub_new (Hp.sub_new hbase (Hp.sub_none hbase e11)) e8)⟩
    · simp (dsimp := false) (implicitDefEqProofs := false) (disch := first | omega | assumption | (simp only [rL, Nat.reduceAdd]; try omega)) only [↓rD, rU, ev, ofConst, ofCell, ↓reduceIte, Nat.reduceEqDiff, Nat.reduceAdd, Nat.reduceSub, Nat.reduceMul, Nat.reduceLeDiff, Nat.reduceLT, Int.reduceNeg, Int.reduceToNat, Int.reduceAdd, Int.reduceSub, Int.reduceMul, Int.reduceLT, Int.reduceLE, Int.reduceEq, rX, dg_cells, dg_fold, List.drop_succ_cons, Hp.stA_of g8, Ne.symm d108, Hp.read_of g8]
      have h9 := h.set (l2 := l8) (ob := zc) (ob' := zc) d8 (by rw [Hp.set_ne _ _ (Ne.symm d108)]; exact Hp.set_same _ _ _)
      rw [upF_lack h1 htk]
      refine ⟨_, Hp.sub_refl, rfl, ?_⟩
      simp only [List.append_nil]
      exact h9.base (Hp.sub_new hbase e8)
end Go.Proofs.YtnnjjmiahcnbaaaGreat
set_option maxRecDepth 100000
namespace Go.Proofs.YtnnjjmiahcnbaaaGreat
open Go Go.Av
theorem dg_inj {a b : List UInt8} (h : dg a = dg b) : a = b := by
  have h1 : a.map byteAV = b.map byteAV := by simpa [dg] using h
  have h2 := congrArg bytesOf h1
  rw [bytesOf_map, bytesOf_map] at h2
  exact Option.some.inj h2
theorem peq_dg {a b : List UInt8} : peq (.agg (a.map byteAV)) (.agg (b.map byteAV)) = decide (a = b) := by
  by_cases h : a = b
  · subst h; simp [peq_self]
  · have : ¬ peq (.agg (a.map byteAV)) (.agg (b.map byteAV)) = true := fun hp => h (dg_inj ((peq_iff _ _).1 hp))
    simp only [Bool.not_eq_true] at this; simp [this, h]
theorem fitR_dg {a : List UInt8} (h : a.length = 32) : fitR [(32, .int .u8)] (a.map byteAV) := by
  refine ⟨by simp [h], ?_, ?_⟩
  · intro c hc
    obtain ⟨b, _, rfl⟩ := List.mem_map.1 (List.mem_of_mem_take hc)
    rfl
  · simp only [fitR]; rw [List.drop_of_length_le (by simp [h])]
def pathOk (n i : Int) : Bool := decide (1 ≤ n ∧ n ≤ 1099511627776 ∧ 0 ≤ i ∧ i < n)
theorem inPath_spec (n i : Int) (x : List UInt8) (ds : List (List UInt8)) (o : Own) (s : Hp) (hx : x.length = 32) (hd : Digs ds) (hl : ds.length ≤ 900000) :
    AC Tryz.prog 66 [.v (.int .i64 n), .v (.int .i64 i), dg x, .sl (ds.map dg) o] s fun r s' =>
      if pathOk n i = true then ∃ l, s l = none ∧ r = .tup [.ptr l 0, dg (upF n.toNat i.toNat x ds).1] ∧ PS s l (upF n.toNat i.toNat x ds).2.1 (upF n.toNat i.toNat x ds).2.2.1 (upF n.toNat i.toNat x ds).2.2.2 s'
      else s' = s ∧ r = .tup [.v (.pointer none), dg zd] := by
  refine AC_run hm prep66 (by simp) ?_
  simp (dsimp := false) (implicitDefEqProofs := false) (disch := first | omega | assumption | (simp only [rL, Nat.reduceAdd]; try omega)) only [↓rD, rU, ev, ofConst, ofCell, ↓reduceIte, Nat.reduceEqDiff, Nat.reduceAdd, Nat.reduceSub, Nat.reduceMul, Nat.reduceLeDiff, Nat.reduceLT, Int.reduceNeg, Int.reduceToNat, Int.reduceAdd, Int.reduceSub, Int.reduceMul, Int.reduceLT, Int.reduceLE, Int.reduceEq, rX, dg_cells, dg_fold, List.drop_succ_cons, hx]
  refine newK_intro fun l6 n6 => ?_
  simp (dsimp := false) (implicitDefEqProofs := false) (disch := first | omega | assumption | (simp only [rL, Nat.reduceAdd]; try omega)) only [↓rD, rU, ev, ofConst, ofCell, ↓reduceIte, Nat.reduceEqDiff, Nat.reduceAdd, Nat.reduceSub, Nat.reduceMul, Nat.reduceLeDiff, Nat.reduceLT, Int.reduceNeg, Int.reduceToNat, Int.reduceAdd, Int.reduceSub, Int.reduceMul, Int.reduceLT, Int.reduceLE, Int.reduceEq, rX, dg_cells, dg_fold, List.drop_succ_cons, hx]
  refine newK_intro fun l9 n9 => ?_
  obtain ⟨d96, e9⟩ := Hp.set_none n9
  simp (dsimp := false) (implicitDefEqProofs := false) (disch := first | omega | assumption | (simp only [rL, Nat.reduceAdd]; try omega)) only [↓rD, rU, ev, ofConst, ofCell, ↓reduceIte, Nat.reduceEqDiff, Nat.reduceAdd, Nat.reduceSub, Nat.reduceMul, Nat.reduceLeDiff, Nat.reduceLT, Int.reduceNeg, Int.reduceToNat, Int.reduceAdd, Int.reduceSub, Int.reduceMul, Int.reduceLT, Int.reduceLE, Int.reduceEq, rX, dg_cells, dg_fold, List.drop_succ_cons]
  have hz : dg zd = .agg (List.replicate 32 (.v (.int .u8 0))) := rfl
  have zt : (List.replicate 32 (AV.v (.int .u8 0))).take 32 = List.replicate 32 (.v (.int .u8 0)) := rfl
  have fin : s.sub ((s.set l6 (.cells (x.map byteAV))).set l9 (.cells (List.replicate 32 (.v (.int .u8 0))))) := Hp.sub_new (Hp.sub_new Hp.sub_refl n6) e9
  by_cases c1 : n < 1
  · have hp : pathOk n i = false := by simp [pathOk]; omega
    simp (dsimp := false) (implicitDefEqProofs := false) (disch := first | omega | assumption | (simp only [rL, Nat.reduceAdd]; try omega)) only [↓rD, rU, ev, ofConst, ofCell, ↓reduceIte, Nat.reduceEqDiff, Nat.reduceAdd, Nat.reduceSub, Nat.reduceMul, Nat.reduceLeDiff, Nat.reduceLT, Int.reduceNeg, Int.reduceToNat, Int.reduceAdd, Int.reduceSub, Int.reduceMul, Int.reduceLT, Int.reduceLE, Int.reduceEq, rX, dg_cells, dg_fold, List.drop_succ_cons, c1, zt]
    exact ⟨s, fin, by rw [hp]; exact ⟨rfl, rfl⟩⟩
  · by_cases c2 : 1099511627776 < n
    · have hp : pathOk n i = false := by simp [pathOk]; omega
      simp (dsimp := false) (implicitDefEqProofs := false) (disch := first | omega | assumption | (simp only [rL, Nat.reduceAdd]; try omega)) only [↓rD, rU, ev, ofConst, ofCell, ↓reduceIte, Nat.reduceEqDiff, Nat.reduceAdd, Nat.reduceSub, Nat.reduceMul, Nat.reduceLeDiff, Nat.reduceLT, Int.reduceNeg, Int.reduceToNat, Int.reduceAdd, Int.reduceSub, Int.reduceMul, Int.reduceLT, Int.reduceLE, Int.reduceEq, rX, dg_cells, dg_fold, List.drop_succ_cons, c1, c2, zt]
      exact ⟨s, fin, by rw [hp]; exact ⟨rfl, rfl⟩⟩
    · by_cases c3 : i < 0
      · have hp : pathOk n i = false := by simp [pathOk]; omega
        simp (dsimp := false) (implicitDefEqProofs := false) (disch := first | omega | assumption | (simp only [rL, Nat.reduceAdd]; try omega)) only [↓rD, rU, ev, ofConst, ofCell, ↓reduceIte, Nat.reduceEqDiff, Nat.reduceAdd, Nat.reduceSub, Nat.reduceMul, Nat.reduceLeDiff, Nat.reduceLT, Int.reduceNeg, Int.reduceToNat, Int.reduceAdd, Int.reduceSub, Int.reduceMul, Int.reduceLT, Int.reduceLE, Int.reduceEq, rX, dg_cells, dg_fold, List.drop_succ_cons, c1, c2, c3, zt]
        exact ⟨s, fin, by rw [hp]; exact ⟨rfl, rfl⟩⟩
      · by_cases c4 : n ≤ i
        · have hp : pathOk n i = false := by simp [pathOk]; omega
          simp (dsimp := false) (implicitDefEqProofs := false) (disch := first | omega | assumption | (simp only [rL, Nat.reduceAdd]; try omega)) only [↓rD, rU, ev, ofConst, ofCell, ↓reduceIte, Nat.reduceEqDiff, Nat.reduceAdd, Nat.reduceSub, Nat.reduceMul, Nat.reduceLeDiff, Nat.reduceLT, Int.reduceNeg, Int.reduceToNat, Int.reduceAdd, Int.reduceSub, Int.reduceMul, Int.reduceLT, Int.reduceLE, Int.reduceEq, rX, dg_cells, dg_fold, List.drop_succ_cons, c1, c2, c3, c4, zt]
          exact ⟨s, fin, by rw [hp]; exact ⟨rfl, rfl⟩⟩
        · have hp : pathOk n i = true := by simp [pathOk]; omega
          obtain ⟨m, rfl⟩ : ∃ m : Nat, n = m := ⟨n.toNat, by omega⟩
          obtain ⟨j, rfl⟩ : ∃ j : Nat, i = j := ⟨i.toNat, by omega⟩
          have e : putAt [AV.sl [] Own.nil, AV.sl [] Own.nil, AV.v (Value.bool false)] 0 [AV.sl (List.map dg ds) o] = [.sl (ds.map dg) o, .sl [] .nil, .v (.bool false)] := rfl
          simp (dsimp := false) (implicitDefEqProofs := false) (disch := first | omega | assumption | (simp only [rL, Nat.reduceAdd]; try omega)) only [↓rD, rU, ev, ofConst, ofCell, ↓reduceIte, Nat.reduceEqDiff, Nat.reduceAdd, Nat.reduceSub, Nat.reduceMul, Nat.reduceLeDiff, Nat.reduceLT, Int.reduceNeg, Int.reduceToNat, Int.reduceAdd, Int.reduceSub, Int.reduceMul, Int.reduceLT, Int.reduceLE, Int.reduceEq, rX, dg_cells, dg_fold, List.drop_succ_cons, c1, c2, c3, c4, zt, e]
          refine newK_intro fun l n10 => ?_
          obtain ⟨dl9, k10⟩ := Hp.set_none n10
          obtain ⟨dl6, k10⟩ := Hp.set_none k10
          simp (dsimp := false) (implicitDefEqProofs := false) (disch := first | omega | assumption | (simp only [rL, Nat.reduceAdd]; try omega)) only [↓rD, rU, ev, ofConst, ofCell, ↓reduceIte, Nat.reduceEqDiff, Nat.reduceAdd, Nat.reduceSub, Nat.reduceMul, Nat.reduceLeDiff, Nat.reduceLT, Int.reduceNeg, Int.reduceToNat, Int.reduceAdd, Int.reduceSub, Int.reduceMul, Int.reduceLT, Int.reduceLE, Int.reduceEq, rX, dg_cells, dg_fold, List.drop_succ_cons, zt, e, hx]
          have hP : PS ((s.set l6 (dc x)).set l9 zc) l ds [] false (((s.set l6 (dc x)).set l9 zc).set l (.cells [.sl (ds.map dg) o, .sl [] .nil, .v (.bool false)])) :=
            ⟨o, .nil, [], rfl, Owned.nil Hp.sub_refl⟩
          refine call_intro (up_spec _ m j x ds [] _ _ l rfl (by omega) (by omega) (by omega) hx hd (by simp; omega) hP) ?_
          rintro _ s2 ⟨rfl, h⟩
          obtain ⟨u1, _⟩ := upF_ok _ m j x ds rfl hd
          rw [hp, Int.toNat_natCast, Int.toNat_natCast]
          simp only [List.nil_append, if_true] at h ⊢
          generalize upF m j x ds = u at *
          obtain ⟨ub, ud, ut, ul⟩ := u
          simp only at u1 h ⊢
          have g9 : s2 l9 = some zc := h.get (Ne.symm dl9) (Hp.set_same _ _ _)
          unfold zc at g9
          simp (dsimp := false) (implicitDefEqProofs := false) (disch := first | omega | assumption | (simp only [rL, Nat.reduceAdd]; try omega)) only [↓rD, rU, ev, ofConst, ofCell, ↓reduceIte, Nat.reduceEqDiff, Nat.reduceAdd, Nat.reduceSub, Nat.reduceMul, Nat.reduceLeDiff, Nat.reduceLT, Int.reduceNeg, Int.reduceToNat, Int.reduceAdd, Int.reduceSub, Int.reduceMul, Int.reduceLT, Int.reduceLE, Int.reduceEq, rX, dg_cells, dg_fold, List.drop_succ_cons, zt, u1, Hp.stA_of g9, Hp.read_of g9]
          have h9 := h.set (l2 := l9) (ob := dc ub) (ob' := zc) (Ne.symm dl9) (Hp.set_same _ _ _)
          refine ⟨_, Hp.sub_refl, l, k10, rfl, h9.base (Hp.sub_new (Hp.sub_new (Hp.sub_new Hp.sub_refl n6) e9) e9)⟩
end Go.Proofs.YtnnjjmiahcnbaaaGreat
set_option maxRecDepth 100000
namespace Go.Proofs.YtnnjjmiahcnbaaaGreat
open Go Go.Av
theorem eqvK_dg {neg : Bool} {a b : List UInt8} {C : AV → Prop} (ha : a.length = 32) (hb : b.length = 32) : eqvK neg [(32, .int .u8)] (dg a) (dg b) C = C (.v (.bool (xor neg (decide (a = b))))) := by
  have h1 := fitR_dg ha
  have h2 := fitR_dg hb
  show (fitR _ _ ∧ fitR _ _ ∧ C (.v (.bool (xor neg (peq (.agg (a.map byteAV)) (.agg (b.map byteAV))))))) = _
  rw [peq_dg]; simp [h1, h2]
def inPathF (root : List UInt8) (n i : Int) (x : List UInt8) (ds : List (List UInt8)) : Bool :=
  pathOk n i && !(upF n.toNat i.toNat x ds).2.2.2 && decide ((upF n.toNat i.toNat x ds).2.1.length = 0) && decide ((upF n.toNat i.toNat x ds).1 = root)
theorem InPath_spec (root : List UInt8) (n i : Int) (x : List UInt8) (ds : List (List UInt8)) (o : Own) (s : Hp) (hr : root.length = 32) (hx : x.length = 32) (hd : Digs ds) (hl : ds.length ≤ 900000) :
    AC Tryz.prog 58 [dg root, .v (.int .i64 n), .v (.int .i64 i), dg x, .sl (ds.map dg) o] s fun r s' => s' = s ∧ r = .v (.bool (inPathF root n i x ds)) := by
  refine AC_run hm prep58 (by simp) ?_
  simp (dsimp := false) (implicitDefEqProofs := false) (disch := first | omega | assumption | (simp only [rL, Nat.reduceAdd]; try omega)) only [↓rD, rU, ev, ofConst, ofCell, ↓reduceIte, Nat.reduceEqDiff, Nat.reduceAdd, Nat.reduceSub, Nat.reduceMul, Nat.reduceLeDiff, Nat.reduceLT, Int.reduceNeg, Int.reduceToNat, Int.reduceAdd, Int.reduceSub, Int.reduceMul, Int.reduceLT, Int.reduceLE, Int.reduceEq, rX, dg_cells, dg_fold, List.drop_succ_cons, hr]
  refine newK_intro fun l5 n5 => ?_
  simp (dsimp := false) (implicitDefEqProofs := false) (disch := first | omega | assumption | (simp only [rL, Nat.reduceAdd]; try omega)) only [↓rD, rU, ev, ofConst, ofCell, ↓reduceIte, Nat.reduceEqDiff, Nat.reduceAdd, Nat.reduceSub, Nat.reduceMul, Nat.reduceLeDiff, Nat.reduceLT, Int.reduceNeg, Int.reduceToNat, Int.reduceAdd, Int.reduceSub, Int.reduceMul, Int.reduceLT, Int.reduceLE, Int.reduceEq, rX, dg_cells, dg_fold, List.drop_succ_cons, hx]
  refine newK_intro fun l8 n8 => ?_
  obtain ⟨d85, e8⟩ := Hp.set_none n8
  simp (dsimp := false) (implicitDefEqProofs := false) (disch := first | omega | assumption | (simp only [rL, Nat.reduceAdd]; try omega)) only [↓rD, rU, ev, ofConst, ofCell, ↓reduceIte, Nat.reduceEqDiff, Nat.reduceAdd, Nat.reduceSub, Nat.reduceMul, Nat.reduceLeDiff, Nat.reduceLT, Int.reduceNeg, Int.reduceToNat, Int.reduceAdd, Int.reduceSub, Int.reduceMul, Int.reduceLT, Int.reduceLE, Int.reduceEq, rX, dg_cells, dg_fold, List.drop_succ_cons, hx]
  refine call_intro (inPath_spec n i x ds o _ hx hd hl) ?_
  rintro r s1 h
  by_cases hp : pathOk n i = true
  · rw [if_pos hp] at h
    obtain ⟨l, nl, rfl, h⟩ := h
    obtain ⟨dl8, el⟩ := Hp.set_none nl
    obtain ⟨dl5, el⟩ := Hp.set_none el
    obtain ⟨u1, _⟩ := upF_ok _ n.toNat i.toNat x ds rfl hd
    have hI : inPathF root n i x ds = (!(upF n.toNat i.toNat x ds).2.2.2 && decide ((upF n.toNat i.toNat x ds).2.1.length = 0) && decide ((upF n.toNat i.toNat x ds).1 = root)) := by simp [inPathF, hp]
    rw [hI]
    generalize upF n.toNat i.toNat x ds = u at *
    obtain ⟨ub, ud, ut, ul⟩ := u
    simp only at u1 h ⊢
    have g5 : s1 l5 = some (.cells (root.map byteAV)) := h.get (Ne.symm dl5) (by rw [Hp.set_ne _ _ (Ne.symm d85)]; exact Hp.set_same _ _ _)
    have hb : s.sub s1 := Hp.sub_trans (Hp.sub_new (Hp.sub_new Hp.sub_refl n5) e8) (h.sub nl)
    simp (dsimp := false) (implicitDefEqProofs := false) (disch := first | omega | assumption | (simp only [rL, Nat.reduceAdd]; try omega)) only [↓rD, rU, ev, ofConst, ofCell, ↓reduceIte, Nat.reduceEqDiff, Nat.reduceAdd, Nat.reduceSub, Nat.reduceMul, Nat.reduceLeDiff, Nat.reduceLT, Int.reduceNeg, Int.reduceToNat, Int.reduceAdd, Int.reduceSub, Int.reduceMul, Int.reduceLT, Int.reduceLE, Int.reduceEq, rX, dg_cells, dg_fold, List.drop_succ_cons, List.getElem?_cons_zero, List.getElem?_cons_succ]
    refine newK_intro fun l12 n12 => ?_
    obtain ⟨d12, e12, h⟩ := h.new (ob := dc ub) n12
    have d125 : l12 ≠ l5 := by rintro rfl; rw [n12] at g5; cases g5
    simp (dsimp := false) (implicitDefEqProofs := false) (disch := first | omega | assumption | (simp only [rL, Nat.reduceAdd]; try omega)) only [↓rD, rU, ev, ofConst, ofCell, ↓reduceIte, Nat.reduceEqDiff, Nat.reduceAdd, Nat.reduceSub, Nat.reduceMul, Nat.reduceLeDiff, Nat.reduceLT, Int.reduceNeg, Int.reduceToNat, Int.reduceAdd, Int.reduceSub, Int.reduceMul, Int.reduceLT, Int.reduceLE, Int.reduceEq, rX, dg_cells, dg_fold, List.drop_succ_cons, u1]
    refine call_intro (good_spec _ _ l ud ut ul h) ?_
    rintro _ _ ⟨rfl, rfl⟩
    have hf : s.sub (s1.set l12 (.cells (ub.map byteAV))) := Hp.sub_new hb (Hp.sub_none hb n12)
    cases hg : (!ul && decide (ud.length = 0))
    · simp (dsimp := false) (implicitDefEqProofs := false) (disch := first | omega | assumption | (simp only [rL, Nat.reduceAdd]; try omega)) only [↓rD, rU, ev, ofConst, ofCell, ↓reduceIte, Nat.reduceEqDiff, Nat.reduceAdd, Nat.reduceSub, Nat.reduceMul, Nat.reduceLeDiff, Nat.reduceLT, Int.reduceNeg, Int.reduceToNat, Int.reduceAdd, Int.reduceSub, Int.reduceMul, Int.reduceLT, Int.reduceLE, Int.reduceEq, rX, dg_cells, dg_fold, List.drop_succ_cons]
      exact ⟨s, hf, rfl, by simp⟩
    · simp (dsimp := false) (implicitDefEqProofs := false) (disch := first | omega | assumption | (simp only [rL, Nat.reduceAdd]; try omega)) only [↓rD, rU, ev, ofConst, ofCell, ↓reduceIte, Nat.reduceEqDiff, Nat.reduceAdd, Nat.reduceSub, Nat.reduceMul, Nat.reduceLeDiff, Nat.reduceLT, Int.reduceNeg, Int.reduceToNat, Int.reduceAdd, Int.reduceSub, Int.reduceMul, Int.reduceLT, Int.reduceLE, Int.reduceEq, rX, dg_cells, dg_fold, List.drop_succ_cons, Hp.read_of g5, Ne.symm d125, u1, hr, eqvK_dg, Bool.false_xor]
      exact ⟨s, hf, rfl, by simp⟩
  · rw [if_neg hp] at h
    obtain ⟨rfl, rfl⟩ := h
    have hI : inPathF root n i x ds = false := by simp [inPathF, hp]
    rw [hI]
    simp (dsimp := false) (implicitDefEqProofs := false) (disch := first | omega | assumption | (simp only [rL, Nat.reduceAdd]; try omega)) only [↓rD, rU, ev, ofConst, ofCell, ↓reduceIte, Nat.reduceEqDiff, Nat.reduceAdd, Nat.reduceSub, Nat.reduceMul, Nat.reduceLeDiff, Nat.reduceLT, Int.reduceNeg, Int.reduceToNat, Int.reduceAdd, Int.reduceSub, Int.reduceMul, Int.reduceLT, Int.reduceLE, Int.reduceEq, rX, dg_cells, dg_fold, List.drop_succ_cons, List.getElem?_cons_zero, List.getElem?_cons_succ, zd_length]
    refine newK_intro fun l12 n12 => ?_
    simp (dsimp := false) (implicitDefEqProofs := false) (disch := first | omega | assumption | (simp only [rL, Nat.reduceAdd]; try omega)) only [↓rD, rU, ev, ofConst, ofCell, ↓reduceIte, Nat.reduceEqDiff, Nat.reduceAdd, Nat.reduceSub, Nat.reduceMul, Nat.reduceLeDiff, Nat.reduceLT, Int.reduceNeg, Int.reduceToNat, Int.reduceAdd, Int.reduceSub, Int.reduceMul, Int.reduceLT, Int.reduceLE, Int.reduceEq, rX, dg_cells, dg_fold, List.drop_succ_cons, zd_length, Bool.not_true]
    refine ⟨s, Hp.sub_new (Hp.sub_new (Hp.sub_new Hp.sub_refl n5) e8) ?_, rfl⟩
    exact (Hp.set_none (Hp.set_none n12).2).2
theorem PathPre_spec (n i : Int) (x : List UInt8) (ds : List (List UInt8)) (o : Own) (s : Hp) (hx : x.length = 32) (hd : Digs ds) (hl : ds.length ≤ 900000) :
    AC Tryz.prog 34 [.v (.int .i64 n), .v (.int .i64 i), dg x, .sl (ds.map dg) o] s fun r s' => ∃ tso o', r = .sl (TX tso) o' ∧ Owned s s' 1 (TX tso) o' ∧ tso.map (·.1) = (if pathOk n i = true then (upF n.toNat i.toNat x ds).2.2.1 else []) := by
  refine AC_run hm prep34 (by simp) ?_
  simp (dsimp := false) (implicitDefEqProofs := false) (disch := first | omega | assumption | (simp only [rL, Nat.reduceAdd]; try omega)) only [↓rD, rU, ev, ofConst, ofCell, ↓reduceIte, Nat.reduceEqDiff, Nat.reduceAdd, Nat.reduceSub, Nat.reduceMul, Nat.reduceLeDiff, Nat.reduceLT, Int.reduceNeg, Int.reduceToNat, Int.reduceAdd, Int.reduceSub, Int.reduceMul, Int.reduceLT, Int.reduceLE, Int.reduceEq, rX, dg_cells, dg_fold, List.drop_succ_cons, hx]
  refine newK_intro fun l6 n6 => ?_
  simp (dsimp := false) (implicitDefEqProofs := false) (disch := first | omega | assumption | (simp only [rL, Nat.reduceAdd]; try omega)) only [↓rD, rU, ev, ofConst, ofCell, ↓reduceIte, Nat.reduceEqDiff, Nat.reduceAdd, Nat.reduceSub, Nat.reduceMul, Nat.reduceLeDiff, Nat.reduceLT, Int.reduceNeg, Int.reduceToNat, Int.reduceAdd, Int.reduceSub, Int.reduceMul, Int.reduceLT, Int.reduceLE, Int.reduceEq, rX, dg_cells, dg_fold, List.drop_succ_cons, hx]
  refine call_intro (inPath_spec n i x ds o _ hx hd hl) ?_
  rintro r s1 h
  by_cases hp : pathOk n i = true
  · rw [if_pos hp] at h
    obtain ⟨l, nl, rfl, h⟩ := h
    obtain ⟨dl6, el⟩ := Hp.set_none nl
    obtain ⟨u1, _⟩ := upF_ok _ n.toNat i.toNat x ds rfl hd
    rw [if_pos hp]
    generalize upF n.toNat i.toNat x ds = u at *
    obtain ⟨ub, ud, ut, ul⟩ := u
    simp only at u1 h ⊢
    simp (dsimp := false) (implicitDefEqProofs := false) (disch := first | omega | assumption | (simp only [rL, Nat.reduceAdd]; try omega)) only [↓rD, rU, ev, ofConst, ofCell, ↓reduceIte, Nat.reduceEqDiff, Nat.reduceAdd, Nat.reduceSub, Nat.reduceMul, Nat.reduceLeDiff, Nat.reduceLT, Int.reduceNeg, Int.reduceToNat, Int.reduceAdd, Int.reduceSub, Int.reduceMul, Int.reduceLT, Int.reduceLE, Int.reduceEq, rX, dg_cells, dg_fold, List.drop_succ_cons, List.getElem?_cons_zero, List.getElem?_cons_succ]
    refine newK_intro fun l12 n12 => ?_
    obtain ⟨d12, e12, h⟩ := h.new (ob := dc ub) n12
    obtain ⟨od, ot, tso, q1, q2⟩ := h
    have hl := q2.sub _ _ (Hp.set_same _ _ _)
    simp (dsimp := false) (implicitDefEqProofs := false) (disch := first | omega | assumption | (simp only [rL, Nat.reduceAdd]; try omega)) only [↓rD, rU, ev, ofConst, ofCell, ↓reduceIte, Nat.reduceEqDiff, Nat.reduceAdd, Nat.reduceSub, Nat.reduceMul, Nat.reduceLeDiff, Nat.reduceLT, Int.reduceNeg, Int.reduceToNat, Int.reduceAdd, Int.reduceSub, Int.reduceMul, Int.reduceLT, Int.reduceLE, Int.reduceEq, rX, dg_cells, dg_fold, List.drop_succ_cons, u1]
    have hr' : s1.read l = some [.sl (ud.map dg) od, .sl (TX tso) ot, .v (.bool ul)] := by
      have := Hp.read_of hl
      rwa [Hp.read_set_ne (Ne.symm d12)] at this
    simp (dsimp := false) (implicitDefEqProofs := false) (disch := first | omega | assumption | (simp only [rL, Nat.reduceAdd]; try omega)) only [↓rD, rU, ev, ofConst, ofCell, ↓reduceIte, Nat.reduceEqDiff, Nat.reduceAdd, Nat.reduceSub, Nat.reduceMul, Nat.reduceLeDiff, Nat.reduceLT, Int.reduceNeg, Int.reduceToNat, Int.reduceAdd, Int.reduceSub, Int.reduceMul, Int.reduceLT, Int.reduceLE, Int.reduceEq, rX, dg_cells, dg_fold, List.drop_succ_cons, hr']
    exact ⟨_, Hp.sub_refl, tso, ot, rfl, q2.base (Hp.sub_new (Hp.sub_new (Hp.sub_new Hp.sub_refl n6) (Hp.set_none e12).2) el), q1⟩
  · rw [if_neg hp] at h
    obtain ⟨rfl, rfl⟩ := h
    rw [if_neg hp]
    simp (dsimp := false) (implicitDefEqProofs := false) (disch := first | omega | assumption | (simp only [rL, Nat.reduceAdd]; try omega)) only [↓rD, rU, ev, ofConst, ofCell, ↓reduceIte, Nat.reduceEqDiff, Nat.reduceAdd, Nat.reduceSub, Nat.reduceMul, Nat.reduceLeDiff, Nat.reduceLT, Int.reduceNeg, Int.reduceToNat, Int.reduceAdd, Int.reduceSub, Int.reduceMul, Int.reduceLT, Int.reduceLE, Int.reduceEq, rX, dg_cells, dg_fold, List.drop_succ_cons, List.getElem?_cons_zero, List.getElem?_cons_succ, zd_length]
    refine newK_intro fun l12 n12 => ?_
    obtain ⟨_, e12⟩ := Hp.set_none n12
    simp (dsimp := false) (implicitDefEqProofs := false) (disch := first | omega | assumption | (simp only [rL, Nat.reduceAdd]; try omega)) only [↓rD, rU, ev, ofConst, ofCell, ↓reduceIte, Nat.reduceEqDiff, Nat.reduceAdd, Nat.reduceSub, Nat.reduceMul, Nat.reduceLeDiff, Nat.reduceLT, Int.reduceNeg, Int.reduceToNat, Int.reduceAdd, Int.reduceSub, Int.reduceMul, Int.reduceLT, Int.reduceLE, Int.reduceEq, rX, dg_cells, dg_fold, List.drop_succ_cons, zd_length, Bool.not_false]
    exact ⟨_, Hp.sub_refl, [], .nil, rfl, Owned.nil (Hp.sub_new (Hp.sub_new Hp.sub_refl n6) e12), rfl⟩
end Go.Proofs.YtnnjjmiahcnbaaaGreat
set_option maxRecDepth 100000
set_option maxHeartbeats 1000000
namespace Go.Proofs.YtnnjjmiahcnbaaaGreat
open Go Go.Av
structure BF where
  x : List UInt8
  y : List UInt8
  ds : List (List UInt8)
  ts : List (List UInt8)
  lk : Bool
def bothF (a : List UInt8) (m n : Nat) (own : Bool) (ds : List (List UInt8)) : BF :=
  if h : m = n ∧ own = true then ⟨a, a, ds, [], false⟩
  else if h2 : (takeF ds false).2.2 = true ∨ m = n ∨ n < 2 then ⟨(takeF ds false).1, (takeF ds false).1, (takeF ds false).2.1, [], (takeF ds false).2.2⟩
  else if m ≤ half n then
    let u := bothF a m (half n) own (takeF ds false).2.1
    ⟨u.x, sha256 (nodeB u.y (takeF ds false).1), u.ds, u.ts ++ [nodeB u.y (takeF ds false).1], u.lk⟩
  else
    let u := bothF a (m - half n) (n - half n) false (takeF ds false).2.1
    ⟨sha256 (nodeB (takeF ds false).1 u.x), sha256 (nodeB (takeF ds false).1 u.y), u.ds, u.ts ++ [nodeB (takeF ds false).1 u.x, nodeB (takeF ds false).1 u.y], u.lk⟩
termination_by n
decreasing_by
  · exact half_lt n (by omega)
  · have := half_pos n; omega
theorem bothF_own {a : List UInt8} {n : Nat} {ds : List (List UInt8)} : bothF a n n true ds = ⟨a, a, ds, [], false⟩ := by rw [bothF, dif_pos ⟨rfl, rfl⟩]
theorem bothF_end {a : List UInt8} {m n : Nat} {own : Bool} {ds d1 : List (List UInt8)} {other : List UInt8} {lk : Bool} (h : ¬ (m = n ∧ own = true)) (ht : takeF ds false = (other, d1, lk)) (h2 : lk = true ∨ m = n) : bothF a m n own ds = ⟨other, other, d1, [], lk⟩ := by
  rw [bothF, dif_neg h, ht, dif_pos (by rcases h2 with h2 | h2; exact .inl h2; exact .inr (.inl h2))]
theorem bothF_left {a : List UInt8} {m n : Nat} {own : Bool} {ds d1 : List (List UInt8)} {other : List UInt8} (h : m ≠ n) (hn : 2 ≤ n) (ht : takeF ds false = (other, d1, false)) (hk : m ≤ half n) :
    bothF a m n own ds = ⟨(bothF a m (half n) own d1).x, sha256 (nodeB (bothF a m (half n) own d1).y other), (bothF a m (half n) own d1).ds, (bothF a m (half n) own d1).ts ++ [nodeB (bothF a m (half n) own d1).y other], (bothF a m (half n) own d1).lk⟩ := by
  conv => lhs; rw [bothF, dif_neg (fun hh => h hh.1), ht, dif_neg (by simp; omega), if_pos hk]
theorem bothF_right {a : List UInt8} {m n : Nat} {own : Bool} {ds d1 : List (List UInt8)} {other : List UInt8} (h : m ≠ n) (hn : 2 ≤ n) (ht : takeF ds false = (other, d1, false)) (hk : ¬ m ≤ half n) :
    bothF a m n own ds = ⟨sha256 (nodeB other (bothF a (m - half n) (n - half n) false d1).x), sha256 (nodeB other (bothF a (m - half n) (n - half n) false d1).y), (bothF a (m - half n) (n - half n) false d1).ds,
      (bothF a (m - half n) (n - half n) false d1).ts ++ [nodeB other (bothF a (m - half n) (n - half n) false d1).x, nodeB other (bothF a (m - half n) (n - half n) false d1).y], (bothF a (m - half n) (n - half n) false d1).lk⟩ := by
  conv => lhs; rw [bothF, dif_neg (fun hh => h hh.1), ht, dif_neg (by simp; omega), if_neg hk]
theorem bothF_ok : ∀ (N : Nat) (a : List UInt8) (m n : Nat) (own : Bool) (ds : List (List UInt8)), n = N → 1 ≤ m → m ≤ n → a.length = 32 → Digs ds →
    (bothF a m n own ds).x.length = 32 ∧ (bothF a m n own ds).y.length = 32 ∧ Digs (bothF a m n own ds).ds ∧ (bothF a m n own ds).ds.length ≤ ds.length ∧ (bothF a m n own ds).ts.length + 2 * (bothF a m n own ds).ds.length ≤ 2 * ds.length := by
  intro N
  induction N using Nat.strongRecOn with
  | _ N ih =>
  intro a m n own ds hN h1 hmn ha hd
  obtain ⟨t1, t2, t3, t4⟩ := takeF_digs (lk := false) hd
  by_cases h : m = n ∧ own = true
  · obtain ⟨rfl, rfl⟩ := h
    rw [bothF_own]; exact ⟨ha, ha, hd, Nat.le_refl _, by simp⟩
  · generalize htk : takeF ds false = tk at *
    obtain ⟨other, d1, lk⟩ := tk
    simp only at t1 t2 t3 t4
    by_cases h2 : lk = true ∨ m = n
    · rw [bothF_end h htk h2]
      exact ⟨t1, t1, t2, t3, by simp; omega⟩
    · have hlk : lk = false := by cases lk <;> simp_all
      subst hlk
      have hmn' : m ≠ n := by omega
      have t5 := t4 rfl
      have hlt := half_lt n (by omega)
      have hpos := half_pos n
      by_cases hk : m ≤ half n
      · rw [bothF_left hmn' (by omega) htk hk]
        obtain ⟨u1, u2, u3, u4, u5⟩ := ih (half n) (by omega) a m (half n) own d1 rfl h1 hk ha t2
        exact ⟨u1, sha256_length _, u3, by simp only; omega, by simp only [List.length_append, List.length_cons, List.length_nil]; omega⟩
      · rw [bothF_right hmn' (by omega) htk hk]
        obtain ⟨u1, u2, u3, u4, u5⟩ := ih (n - half n) (by omega) a (m - half n) (n - half n) false d1 rfl (by omega) (by omega) ha t2
        exact ⟨sha256_length _, sha256_length _, u3, by simp only; omega, by simp only [List.length_append, List.length_cons, List.length_nil]; omega⟩
theorem both_spec : ∀ (N : Nat) (a : List UInt8) (m n : Nat) (own : Bool) (ds ts : List (List UInt8)) (s0 s : Hp) (l : Nat), n = N → 1 ≤ m → m ≤ n → n ≤ 1099511627776 → a.length = 32 → Digs ds → ts.length + 2 * ds.length ≤ 900000 → PS s0 l ds ts false s →
    AC Tryz.prog 50 [.ptr l 0, dg a, .v (.int .i64 m), .v (.int .i64 n), .v (.bool own)] s fun r s' => r = .tup [dg (bothF a m n own ds).x, dg (bothF a m n own ds).y] ∧ PS s0 l (bothF a m n own ds).ds (ts ++ (bothF a m n own ds).ts) (bothF a m n own ds).lk s' := by
  intro N
  induction N using Nat.strongRecOn with
  | _ N ih =>
  intro a m n own ds ts s0 s l hN h1 hmn hn ha hd hts h
  refine AC_run hm prep50 (by simp) ?_
  simp (dsimp := false) (implicitDefEqProofs := false) (disch := first | omega | assumption | (simp only [rL, Nat.reduceAdd]; try omega)) only [↓rD, rU, ev, ofConst, ofCell, ↓reduceIte, Nat.reduceEqDiff, Nat.reduceAdd, Nat.reduceSub, Nat.reduceMul, Nat.reduceLeDiff, Nat.reduceLT, Int.reduceNeg, Int.reduceToNat, Int.reduceAdd, Int.reduceSub, Int.reduceMul, Int.reduceLT, Int.reduceLE, Int.reduceEq, rX, dg_cells, dg_fold, List.drop_succ_cons, ha]
  refine newK_intro fun l6 n6 => ?_
  obtain ⟨d6, e6, h⟩ := h.new (ob := dc a) n6
  simp (dsimp := false) (implicitDefEqProofs := false) (disch := first | omega | assumption | (simp only [rL, Nat.reduceAdd]; try omega)) only [↓rD, rU, ev, ofConst, ofCell, ↓reduceIte, Nat.reduceEqDiff, Nat.reduceAdd, Nat.reduceSub, Nat.reduceMul, Nat.reduceLeDiff, Nat.reduceLT, Int.reduceNeg, Int.reduceToNat, Int.reduceAdd, Int.reduceSub, Int.reduceMul, Int.reduceLT, Int.reduceLE, Int.reduceEq, rX, dg_cells, dg_fold, List.drop_succ_cons, ha]
  refine newK_intro fun l10 n10 => ?_
  obtain ⟨d106, _⟩ := Hp.set_none n10
  obtain ⟨d10, e10, h⟩ := h.new (ob := zc) n10
  simp (dsimp := false) (implicitDefEqProofs := false) (disch := first | omega | assumption | (simp only [rL, Nat.reduceAdd]; try omega)) only [↓rD, rU, ev, ofConst, ofCell, ↓reduceIte, Nat.reduceEqDiff, Nat.reduceAdd, Nat.reduceSub, Nat.reduceMul, Nat.reduceLeDiff, Nat.reduceLT, Int.reduceNeg, Int.reduceToNat, Int.reduceAdd, Int.reduceSub, Int.reduceMul, Int.reduceLT, Int.reduceLE, Int.reduceEq, rX, dg_cells, dg_fold, List.drop_succ_cons]
  refine newK_intro fun l11 n11 => ?_
  obtain ⟨d1110, n11'⟩ := Hp.set_none n11
  obtain ⟨d116, _⟩ := Hp.set_none n11'
  obtain ⟨d11, e11, h⟩ := h.new (ob := zc) n11
  have hbase : s0.sub (((s0.set l6 (dc a)).set l10 zc).set l11 zc) := Hp.sub_new (Hp.sub_new (Hp.sub_new Hp.sub_refl e6) (Hp.set_none e10).2) (Hp.set_none (Hp.set_none e11).2).2
  have e10' := (Hp.set_none e10).2
  have e11' := (Hp.set_none (Hp.set_none e11).2).2
  simp (dsimp := false) (implicitDefEqProofs := false) (disch := first | omega | assumption | (simp only [rL, Nat.reduceAdd]; try omega)) only [↓rD, rU, ev, ofConst, ofCell, ↓reduceIte, Nat.reduceEqDiff, Nat.reduceAdd, Nat.reduceSub, Nat.reduceMul, Nat.reduceLeDiff, Nat.reduceLT, Int.reduceNeg, Int.reduceToNat, Int.reduceAdd, Int.reduceSub, Int.reduceMul, Int.reduceLT, Int.reduceLE, Int.reduceEq, rX, dg_cells, dg_fold, List.drop_succ_cons]
  by_cases hown : m = n ∧ own = true
  · obtain ⟨rfl, rfl⟩ := hown
    simp (dsimp := false) (implicitDefEqProofs := false) (disch := first | omega | assumption | (simp only [rL, Nat.reduceAdd]; try omega)) only [↓rD, rU, ev, ofConst, ofCell, ↓reduceIte, Nat.reduceEqDiff, Nat.reduceAdd, Nat.reduceSub, Nat.reduceMul, Nat.reduceLeDiff, Nat.reduceLT, Int.reduceNeg, Int.reduceToNat, Int.reduceAdd, Int.reduceSub, Int.reduceMul, Int.reduceLT, Int.reduceLE, Int.reduceEq, rX, dg_cells, dg_fold, List.drop_succ_cons, d106, d116, d1110, Ne.symm d106, Ne.symm d116, Ne.symm d1110, ha]
    have h9 := (h.set (l2 := l10) (ob := dc a) (ob' := zc) d10 (by rw [Hp.set_ne _ _ (Ne.symm d1110)]; exact Hp.set_same _ _ _)).set (l2 := l11) (ob := dc a) (ob' := zc) d11 (by rw [Hp.set_ne _ _ d1110]; exact Hp.set_same _ _ _)
    simp only [Hp.set_in1 d1110, Hp.set_set] at h9
    refine ⟨_, Hp.sub_refl, ?_⟩
    rw [bothF_own]
    refine ⟨rfl, ?_⟩
    simp only [List.append_nil]
    exact h9.base (Hp.sub_new (Hp.sub_new (Hp.sub_new Hp.sub_refl e6) e10') e11')
  · obtain ⟨t1, t2, t3, t4⟩ := takeF_digs (lk := false) hd
    have htake := take_spec _ _ l ds ts false hd (by omega) h
    generalize htk : takeF ds false = tk at *
    obtain ⟨other, ds1, lk1⟩ := tk
    simp only at t1 t2 t3 t4 htake
    -- where the sum that was taken is told twice
    have fin : ∀ (s1 : Hp) (l12 : Nat) (lk : Bool), PS (((s0.set l6 (dc a)).set l10 zc).set l11 zc) l ds1 ts lk s1 → s1 l12 = none → bothF a m n own ds = ⟨other, other, ds1, [], lk⟩ →
        s1 l10 = some zc ∧ s1 l11 = some zc ∧ l12 ≠ l10 ∧ l12 ≠ l11 ∧ PS s0 l (bothF a m n own ds).ds (ts ++ (bothF a m n own ds).ts) (bothF a m n own ds).lk (((s1.set l12 (dc other)).set l10 (dc other)).set l11 (dc other)) := by
      intro s1 l12 lk h n12 hb
      have g10 : s1 l10 = some zc := h.get d10 (by rw [Hp.set_ne _ _ (Ne.symm d1110)]; exact Hp.set_same _ _ _)
      have g11 : s1 l11 = some zc := h.get d11 (Hp.set_same _ _ _)
      have d1210 : l12 ≠ l10 := by rintro rfl; rw [n12] at g10; cases g10
      have d1211 : l12 ≠ l11 := by rintro rfl; rw [n12] at g11; cases g11
      obtain ⟨d12, e12, h⟩ := h.new (ob := dc other) n12
      have e12' := (Hp.set_none (Hp.set_none (Hp.set_none e12).2).2).2
      have h9 := (h.set (l2 := l10) (ob := dc other) (ob' := zc) d10 (by rw [Hp.set_ne _ _ (Ne.symm d1210), Hp.set_ne _ _ (Ne.symm d1110)]; exact Hp.set_same _ _ _)).set (l2 := l11) (ob := dc other) (ob' := zc) d11 (by rw [Hp.set_ne _ _ d1110, Hp.set_ne _ _ (Ne.symm d1211)]; exact Hp.set_same _ _ _)
      rw [hb]
      simp only [List.append_nil]
      exact ⟨g10, g11, d1210, d1211, h9.base (Hp.sub_new (Hp.sub_new (Hp.sub_new hbase e12') e10') e11')⟩
    by_cases hmn2 : m = n
    · have hof : own = false := by cases own <;> simp_all
      subst hof
      subst hmn2
      simp (dsimp := false) (implicitDefEqProofs := false) (disch := first | omega | assumption | (simp only [rL, Nat.reduceAdd]; try omega)) only [↓rD, rU, ev, ofConst, ofCell, ↓reduceIte, Nat.reduceEqDiff, Nat.reduceAdd, Nat.reduceSub, Nat.reduceMul, Nat.reduceLeDiff, Nat.reduceLT, Int.reduceNeg, Int.reduceToNat, Int.reduceAdd, Int.reduceSub, Int.reduceMul, Int.reduceLT, Int.reduceLE, Int.reduceEq, rX, dg_cells, dg_fold, List.drop_succ_cons]
      refine call_intro htake ?_
      rintro _ s1 ⟨rfl, h⟩
      simp (dsimp := false) (implicitDefEqProofs := false) (disch := first | omega | assumption | (simp only [rL, Nat.reduceAdd]; try omega)) only [↓rD, rU, ev, ofConst, ofCell, ↓reduceIte, Nat.reduceEqDiff, Nat.reduceAdd, Nat.reduceSub, Nat.reduceMul, Nat.reduceLeDiff, Nat.reduceLT, Int.reduceNeg, Int.reduceToNat, Int.reduceAdd, Int.reduceSub, Int.reduceMul, Int.reduceLT, Int.reduceLE, Int.reduceEq, rX, dg_cells, dg_fold, List.drop_succ_cons, t1]
      refine newK_intro fun l12 n12 => ?_
      obtain ⟨g10, g11, d1210, d1211, hfin⟩ := fin s1 l12 lk1 h n12 (bothF_end hown htk (.inr rfl))
      obtain ⟨ra, rb, hr⟩ := h.read
      have d12 : l12 ≠ l := (h.new (ob := zc) n12).1
      unfold zc at g10 g11
      cases lk1
      · simp (dsimp := false) (implicitDefEqProofs := false) (disch := first | omega | assumption | (simp only [rL, Nat.reduceAdd]; try omega)) only [↓rD, rU, ev, ofConst, ofCell, ↓reduceIte, Nat.reduceEqDiff, Nat.reduceAdd, Nat.reduceSub, Nat.reduceMul, Nat.reduceLeDiff, Nat.reduceLT, Int.reduceNeg, Int.reduceToNat, Int.reduceAdd, Int.reduceSub, Int.reduceMul, Int.reduceLT, Int.reduceLE, Int.reduceEq, rX, dg_cells, dg_fold, List.drop_succ_cons, t1, Ne.symm d12, hr, Hp.stA_of g10, Hp.stA_of g11, Ne.symm d1210, Ne.symm d1211, d1210, d1211, d1110, Ne.symm d1110]
        exact ⟨_, Hp.sub_refl, by rw [bothF_end hown htk (.inr rfl)], hfin⟩
      · simp (dsimp := false) (implicitDefEqProofs := false) (disch := first | omega | assumption | (simp only [rL, Nat.reduceAdd]; try omega)) only [↓rD, rU, ev, ofConst, ofCell, ↓reduceIte, Nat.reduceEqDiff, Nat.reduceAdd, Nat.reduceSub, Nat.reduceMul, Nat.reduceLeDiff, Nat.reduceLT, Int.reduceNeg, Int.reduceToNat, Int.reduceAdd, Int.reduceSub, Int.reduceMul, Int.reduceLT, Int.reduceLE, Int.reduceEq, rX, dg_cells, dg_fold, List.drop_succ_cons, t1, Ne.symm d12, hr, Hp.stA_of g10, Hp.stA_of g11, Ne.symm d1210, Ne.symm d1211, d1210, d1211, d1110, Ne.symm d1110]
        exact ⟨_, Hp.sub_refl, by rw [bothF_end hown htk (.inr rfl)], hfin⟩
    · have hmn3 : ¬ (m : Int) = (n : Nat) := by omega
      simp (dsimp := false) (implicitDefEqProofs := false) (disch := first | omega | assumption | (simp only [rL, Nat.reduceAdd]; try omega)) only [↓rD, rU, ev, ofConst, ofCell, ↓reduceIte, Nat.reduceEqDiff, Nat.reduceAdd, Nat.reduceSub, Nat.reduceMul, Nat.reduceLeDiff, Nat.reduceLT, Int.reduceNeg, Int.reduceToNat, Int.reduceAdd, Int.reduceSub, Int.reduceMul, Int.reduceLT, Int.reduceLE, Int.reduceEq, rX, dg_cells, dg_fold, List.drop_succ_cons, hmn3]
      refine call_intro htake ?_
      rintro _ s1 ⟨rfl, h⟩
      simp (dsimp := false) (implicitDefEqProofs := false) (disch := first | omega | assumption | (simp only [rL, Nat.reduceAdd]; try omega)) only [↓rD, rU, ev, ofConst, ofCell, ↓reduceIte, Nat.reduceEqDiff, Nat.reduceAdd, Nat.reduceSub, Nat.reduceMul, Nat.reduceLeDiff, Nat.reduceLT, Int.reduceNeg, Int.reduceToNat, Int.reduceAdd, Int.reduceSub, Int.reduceMul, Int.reduceLT, Int.reduceLE, Int.reduceEq, rX, dg_cells, dg_fold, List.drop_succ_cons, t1]
      refine newK_intro fun l12 n12 => ?_
      obtain ⟨ra, rb, hr⟩ := h.read
      have d12 : l12 ≠ l := (h.new (ob := zc) n12).1
      cases lk1
      · simp (dsimp := false) (implicitDefEqProofs := false) (disch := first | omega | assumption | (simp only [rL, Nat.reduceAdd]; try omega)) only [↓rD, rU, ev, ofConst, ofCell, ↓reduceIte, Nat.reduceEqDiff, Nat.reduceAdd, Nat.reduceSub, Nat.reduceMul, Nat.reduceLeDiff, Nat.reduceLT, Int.reduceNeg, Int.reduceToNat, Int.reduceAdd, Int.reduceSub, Int.reduceMul, Int.reduceLT, Int.reduceLE, Int.reduceEq, rX, dg_cells, dg_fold, List.drop_succ_cons, t1, Ne.symm d12, hr, hmn3]
        refine call_intro (half_spec n (by omega) (by omega) _) ?_
        rintro _ _ ⟨rfl, rfl⟩
        have hlt := half_lt n (by omega)
        have hpos := half_pos n
        have t5 := t4 rfl
        have g6 : s1 l6 = some (dc a) := h.get d6 (by rw [Hp.set_ne _ _ (Ne.symm d116), Hp.set_ne _ _ (Ne.symm d106)]; exact Hp.set_same _ _ _)
        have d126 : l12 ≠ l6 := by rintro rfl; rw [n12] at g6; cases g6
        have g10 : s1 l10 = some zc := h.get d10 (by rw [Hp.set_ne _ _ (Ne.symm d1110)]; exact Hp.set_same _ _ _)
        have g11 : s1 l11 = some zc := h.get d11 (Hp.set_same _ _ _)
        have d1210 : l12 ≠ l10 := by rintro rfl; rw [n12] at g10; cases g10
        have d1211 : l12 ≠ l11 := by rintro rfl; rw [n12] at g11; cases g11
        obtain ⟨_, e12, h⟩ := h.new (ob := dc other) n12
        have e12' := (Hp.set_none (Hp.set_none (Hp.set_none e12).2).2).2
        have hb2 : s0.sub ((((s0.set l6 (dc a)).set l10 zc).set l11 zc).set l12 (dc other)) := Hp.sub_new hbase e12'
        unfold dc at g6
        by_cases hk : m ≤ half n
        · have hk' : (m : Int) ≤ (half n : Nat) := by omega
          simp (dsimp := false) (implicitDefEqProofs := false) (disch := first | omega | assumption | (simp only [rL, Nat.reduceAdd]; try omega)) only [↓rD, rU, ev, ofConst, ofCell, ↓reduceIte, Nat.reduceEqDiff, Nat.reduceAdd, Nat.reduceSub, Nat.reduceMul, Nat.reduceLeDiff, Nat.reduceLT, Int.reduceNeg, Int.reduceToNat, Int.reduceAdd, Int.reduceSub, Int.reduceMul, Int.reduceLT, Int.reduceLE, Int.reduceEq, rX, dg_cells, dg_fold, List.drop_succ_cons, hk', Hp.read_of g6, Ne.symm d126, ha]
          obtain ⟨u1, u2, u3, u4, u5⟩ := bothF_ok _ a m (half n) own ds1 rfl h1 hk ha t2
          refine call_intro (ih (half n) (by omega) a m (half n) own ds1 ts _ _ l rfl h1 hk (by omega) ha t2 (by omega) h) ?_
          rintro _ s2 ⟨rfl, h⟩
          have hu := bothF_left (a := a) (own := own) hmn2 (by omega) htk hk
          generalize bothF a m (half n) own ds1 = u at *
          obtain ⟨ux, uy, ud, ut, ul⟩ := u
          simp only at u1 u2 u3 u4 u5 h hu ⊢
          simp (dsimp := false) (implicitDefEqProofs := false) (disch := first | omega | assumption | (simp only [rL, Nat.reduceAdd]; try omega)) only [↓rD, rU, ev, ofConst, ofCell, ↓reduceIte, Nat.reduceEqDiff, Nat.reduceAdd, Nat.reduceSub, Nat.reduceMul, Nat.reduceLeDiff, Nat.reduceLT, Int.reduceNeg, Int.reduceToNat, Int.reduceAdd, Int.reduceSub, Int.reduceMul, Int.reduceLT, Int.reduceLE, Int.reduceEq, rX, dg_cells, dg_fold, List.drop_succ_cons, List.getElem?_cons_zero, List.getElem?_cons_succ]
          refine newK_intro fun lA nA => ?_
          have g10 : s2 l10 = some zc := h.get d10 (by rw [Hp.set_ne _ _ (Ne.symm d1210), Hp.set_ne _ _ (Ne.symm d1110)]; exact Hp.set_same _ _ _)
          have g11 : s2 l11 = some zc := h.get d11 (by rw [Hp.set_ne _ _ (Ne.symm d1211)]; exact Hp.set_same _ _ _)
          have g12 : s2 l12 = some (dc other) := h.get d12 (Hp.set_same _ _ _)
          have dA10 : lA ≠ l10 := by rintro rfl; rw [nA] at g10; cases g10
          have dA11 : lA ≠ l11 := by rintro rfl; rw [nA] at g11; cases g11
          have dA12 : lA ≠ l12 := by rintro rfl; rw [nA] at g12; cases g12
          obtain ⟨dA, eA, h⟩ := h.new (ob := dc ux) nA
          have eA' := Hp.sub_none hb2 eA
          simp (dsimp := false) (implicitDefEqProofs := false) (disch := first | omega | assumption | (simp only [rL, Nat.reduceAdd]; try omega)) only [↓rD, rU, ev, ofConst, ofCell, ↓reduceIte, Nat.reduceEqDiff, Nat.reduceAdd, Nat.reduceSub, Nat.reduceMul, Nat.reduceLeDiff, Nat.reduceLT, Int.reduceNeg, Int.reduceToNat, Int.reduceAdd, Int.reduceSub, Int.reduceMul, Int.reduceLT, Int.reduceLE, Int.reduceEq, rX, dg_cells, dg_fold, List.drop_succ_cons, u1, u2]
          refine newK_intro fun lB nB => ?_
          obtain ⟨dBA, nB'⟩ := Hp.set_none nB
          have dB10 : lB ≠ l10 := by rintro rfl; rw [nB'] at g10; cases g10
          have dB11 : lB ≠ l11 := by rintro rfl; rw [nB'] at g11; cases g11
          have dB12 : lB ≠ l12 := by rintro rfl; rw [nB'] at g12; cases g12
          have nB'' : (s2.set lA (dc ux)) lB = none := by rw [Hp.set_ne _ _ dBA]; exact nB'
          obtain ⟨dB, eB, h⟩ := h.new (ob := dc uy) nB''
          have eB' := Hp.sub_none hb2 (Hp.set_none eB).2
          have hb3 : s0.sub ((((((s0.set l6 (dc a)).set l10 zc).set l11 zc).set l12 (dc other)).set lA (dc ux)).set lB (dc uy)) := Hp.sub_new (Hp.sub_new hb2 eA') eB'
          unfold dc at g12
          simp (dsimp := false) (implicitDefEqProofs := false) (disch := first | omega | assumption | (simp only [rL, Nat.reduceAdd]; try omega)) only [↓rD, rU, ev, ofConst, ofCell, ↓reduceIte, Nat.reduceEqDiff, Nat.reduceAdd, Nat.reduceSub, Nat.reduceMul, Nat.reduceLeDiff, Nat.reduceLT, Int.reduceNeg, Int.reduceToNat, Int.reduceAdd, Int.reduceSub, Int.reduceMul, Int.reduceLT, Int.reduceLE, Int.reduceEq, rX, dg_cells, dg_fold, List.drop_succ_cons, u1, u2, dBA, Ne.symm dBA, Hp.read_of g12, Ne.symm dA12, Ne.symm dB12, t1]
          refine call_intro (node_spec uy other u2 t1 _) ?_
          rintro _ s3 ⟨o3, k3, rfl⟩
          obtain ⟨od, ot, tso, q1, q2⟩ := h
          have h : PS ((((((s0.set l6 (dc a)).set l10 zc).set l11 zc).set l12 (dc other)).set lA (dc ux)).set lB (dc uy)) l ud (ts ++ ut) ul s3 := ⟨od, ot, tso, q1, q2.mono k3.sub⟩
          have gA : s3 lA = some (dc ux) := h.get dA (by rw [Hp.set_ne _ _ (Ne.symm dBA)]; exact Hp.set_same _ _ _)
          unfold dc at gA
          simp (dsimp := false) (implicitDefEqProofs := false) (disch := first | omega | assumption | (simp only [rL, Nat.reduceAdd]; try omega)) only [↓rD, rU, ev, ofConst, ofCell, ↓reduceIte, Nat.reduceEqDiff, Nat.reduceAdd, Nat.reduceSub, Nat.reduceMul, Nat.reduceLeDiff, Nat.reduceLT, Int.reduceNeg, Int.reduceToNat, Int.reduceAdd, Int.reduceSub, Int.reduceMul, Int.reduceLT, Int.reduceLE, Int.reduceEq, rX, dg_cells, dg_fold, List.drop_succ_cons, u1, u2, Hp.read_of gA]
          refine call_intro (phash_spec _ s3 l ud (ts ++ ut) ul h (nodeB uy other) o3 (by rw [nodeB_length uy other u2 t1]; omega) (by simp only [List.length_append]; omega)) ?_
          rintro _ s4 ⟨rfl, h⟩
          have gA : s4 lA = some (dc ux) := h.get dA (by rw [Hp.set_ne _ _ (Ne.symm dBA)]; exact Hp.set_same _ _ _)
          have b10 : ((((((s0.set l6 (dc a)).set l10 zc).set l11 zc).set l12 (dc other)).set lA (dc ux)).set lB (dc uy)) l10 = some zc := by
            rw [Hp.set_ne _ _ (Ne.symm dB10), Hp.set_ne _ _ (Ne.symm dA10), Hp.set_ne _ _ (Ne.symm d1210), Hp.set_ne _ _ (Ne.symm d1110)]; exact Hp.set_same _ _ _
          have b11 : ((((((s0.set l6 (dc a)).set l10 zc).set l11 zc).set l12 (dc other)).set lA (dc ux)).set lB (dc uy)) l11 = some zc := by
            rw [Hp.set_ne _ _ (Ne.symm dB11), Hp.set_ne _ _ (Ne.symm dA11), Hp.set_ne _ _ (Ne.symm d1211)]; exact Hp.set_same _ _ _
          have g10 : s4 l10 = some zc := h.get d10 b10
          have g11 : s4 l11 = some zc := h.get d11 b11
          have hq := sha256_length (nodeB uy other)
          generalize hge : sha256 (nodeB uy other) = e at *
          unfold zc at g10 g11
          unfold dc at gA
          simp (dsimp := false) (implicitDefEqProofs := false) (disch := first | omega | assumption | (simp only [rL, Nat.reduceAdd]; try omega)) only [↓rD, rU, ev, ofConst, ofCell, ↓reduceIte, Nat.reduceEqDiff, Nat.reduceAdd, Nat.reduceSub, Nat.reduceMul, Nat.reduceLeDiff, Nat.reduceLT, Int.reduceNeg, Int.reduceToNat, Int.reduceAdd, Int.reduceSub, Int.reduceMul, Int.reduceLT, Int.reduceLE, Int.reduceEq, rX, dg_cells, dg_fold, List.drop_succ_cons, u1, u2, Hp.read_of gA, Hp.stA_of g10, Hp.stA_of g11, d1110, Ne.symm d1110, hq, Hp.read_of g10, Hp.read_of g11]
          have h9 := (h.set (l2 := l10) (ob := dc ux) (ob' := zc) d10 b10).set (l2 := l11) (ob := dc e) (ob' := zc) d11 (by rw [Hp.set_ne _ _ d1110]; exact b11)
          rw [List.append_assoc] at h9
          refine ⟨_, Hp.sub_refl, ?_⟩
          rw [hu]
          exact ⟨rfl, h9.base (Hp.sub_new (Hp.sub_new hb3 e10') e11')⟩
        · have hk' : ¬ (m : Int) ≤ (half n : Nat) := by omega
          have em : (m : Int) - (half n : Nat) = ((m - half n : Nat) : Int) := by omega
          have en : (n : Int) - (half n : Nat) = ((n - half n : Nat) : Int) := by omega
          simp (dsimp := false) (implicitDefEqProofs := false) (disch := first | omega | assumption | (simp only [rL, Nat.reduceAdd]; try omega)) only [↓rD, rU, ev, ofConst, ofCell, ↓reduceIte, Nat.reduceEqDiff, Nat.reduceAdd, Nat.reduceSub, Nat.reduceMul, Nat.reduceLeDiff, Nat.reduceLT, Int.reduceNeg, Int.reduceToNat, Int.reduceAdd, Int.reduceSub, Int.reduceMul, Int.reduceLT, Int.reduceLE, Int.reduceEq, rX, dg_cells, dg_fold, List.drop_succ_cons, hk', Hp.read_of g6, Ne.symm d126, ha, em, en]
          obtain ⟨u1, u2, u3, u4, u5⟩ := bothF_ok _ a (m - half n) (n - half n) false ds1 rfl (by omega) (by omega) ha t2
          refine call_intro (ih (n - half n) (by omega) a (m - half n) (n - half n) false ds1 ts _ _ l rfl (by omega) (by omega) (by omega) ha t2 (by omega) h) ?_
          rintro _ s2 ⟨rfl, h⟩
          have hu := bothF_right (a := a) (own := own) hmn2 (by omega) htk hk
          generalize bothF a (m - half n) (n - half n) false ds1 = u at *
          obtain ⟨ux, uy, ud, ut, ul⟩ := u
          simp only at u1 u2 u3 u4 u5 h hu ⊢
          simp (dsimp := false) (implicitDefEqProofs := false) (disch := first | omega | assumption | (simp only [rL, Nat.reduceAdd]; try omega)) only [↓rD, rU, ev, ofConst, ofCell, ↓reduceIte, Nat.reduceEqDiff, Nat.reduceAdd, Nat.reduceSub, Nat.reduceMul, Nat.reduceLeDiff, Nat.reduceLT, Int.reduceNeg, Int.reduceToNat, Int.reduceAdd, Int.reduceSub, Int.reduceMul, Int.reduceLT, Int.reduceLE, Int.reduceEq, rX, dg_cells, dg_fold, List.drop_succ_cons, List.getElem?_cons_zero, List.getElem?_cons_succ]
          refine newK_intro fun lA nA => ?_
          have g10 : s2 l10 = some zc := h.get d10 (by rw [Hp.set_ne _ _ (Ne.symm d1210), Hp.set_ne _ _ (Ne.symm d1110)]; exact Hp.set_same _ _ _)
          have g11 : s2 l11 = some zc := h.get d11 (by rw [Hp.set_ne _ _ (Ne.symm d1211)]; exact Hp.set_same _ _ _)
          have g12 : s2 l12 = some (dc other) := h.get d12 (Hp.set_same _ _ _)
          have dA10 : lA ≠ l10 := by rintro rfl; rw [nA] at g10; cases g10
          have dA11 : lA ≠ l11 := by rintro rfl; rw [nA] at g11; cases g11
          have dA12 : lA ≠ l12 := by rintro rfl; rw [nA] at g12; cases g12
          obtain ⟨dA, eA, h⟩ := h.new (ob := dc ux) nA
          have eA' := Hp.sub_none hb2 eA
          simp (dsimp := false) (implicitDefEqProofs := false) (disch := first | omega | assumption | (simp only [rL, Nat.reduceAdd]; try omega)) only [↓rD, rU, ev, ofConst, ofCell, ↓reduceIte, Nat.reduceEqDiff, Nat.reduceAdd, Nat.reduceSub, Nat.reduceMul, Nat.reduceLeDiff, Nat.reduceLT, Int.reduceNeg, Int.reduceToNat, Int.reduceAdd, Int.reduceSub, Int.reduceMul, Int.reduceLT, Int.reduceLE, Int.reduceEq, rX, dg_cells, dg_fold, List.drop_succ_cons, u1, u2]
          refine newK_intro fun lB nB => ?_
          obtain ⟨dBA, nB'⟩ := Hp.set_none nB
          have dB10 : lB ≠ l10 := by rintro rfl; rw [nB'] at g10; cases g10
          have dB11 : lB ≠ l11 := by rintro rfl; rw [nB'] at g11; cases g11
          have dB12 : lB ≠ l12 := by rintro rfl; rw [nB'] at g12; cases g12
          have nB'' : (s2.set lA (dc ux)) lB = none := by rw [Hp.set_ne _ _ dBA]; exact nB'
          obtain ⟨dB, eB, h⟩ := h.new (ob := dc uy) nB''
          have eB' := Hp.sub_none hb2 (Hp.set_none eB).2
          have hb3 : s0.sub ((((((s0.set l6 (dc a)).set l10 zc).set l11 zc).set l12 (dc other)).set lA (dc ux)).set lB (dc uy)) := Hp.sub_new (Hp.sub_new hb2 eA') eB'
          unfold dc at g12
          simp (dsimp := false) (implicitDefEqProofs := false) (disch := first | omega | assumption | (simp only [rL, Nat.reduceAdd]; try omega)) only [↓rD, rU, ev, ofConst, ofCell, ↓reduceIte, Nat.reduceEqDiff, Nat.reduceAdd, Nat.reduceSub, Nat.reduceMul, Nat.reduceLeDiff, Nat.reduceLT, Int.reduceNeg, Int.reduceToNat, Int.reduceAdd, Int.reduceSub, Int.reduceMul, Int.reduceLT, Int.reduceLE, Int.reduceEq, rX, dg_cells, dg_fold, List.drop_succ_cons, u1, u2, dBA, Ne.symm dBA, Hp.read_of g12, Ne.symm dA12, Ne.symm dB12, t1]
          refine call_intro (node_spec other ux t1 u1 _) ?_
          rintro _ s3 ⟨o3, k3, rfl⟩
          obtain ⟨od, ot, tso, q1, q2⟩ := h
          have h : PS ((((((s0.set l6 (dc a)).set l10 zc).set l11 zc).set l12 (dc other)).set lA (dc ux)).set lB (dc uy)) l ud (ts ++ ut) ul s3 := ⟨od, ot, tso, q1, q2.mono k3.sub⟩
          have b12 : ((((((s0.set l6 (dc a)).set l10 zc).set l11 zc).set l12 (dc other)).set lA (dc ux)).set lB (dc uy)) l12 = some (dc other) := by
            rw [Hp.set_ne _ _ (Ne.symm dB12), Hp.set_ne _ _ (Ne.symm dA12)]; exact Hp.set_same _ _ _
          have b10 : ((((((s0.set l6 (dc a)).set l10 zc).set l11 zc).set l12 (dc other)).set lA (dc ux)).set lB (dc uy)) l10 = some zc := by
            rw [Hp.set_ne _ _ (Ne.symm dB10), Hp.set_ne _ _ (Ne.symm dA10), Hp.set_ne _ _ (Ne.symm d1210), Hp.set_ne _ _ (Ne.symm d1110)]; exact Hp.set_same _ _ _
          have b11 : ((((((s0.set l6 (dc a)).set l10 zc).set l11 zc).set l12 (dc other)).set lA (dc ux)).set lB (dc uy)) l11 = some zc := by
            rw [Hp.set_ne _ _ (Ne.symm dB11), Hp.set_ne _ _ (Ne.symm dA11), Hp.set_ne _ _ (Ne.symm d1211)]; exact Hp.set_same _ _ _
          have gB : s3 lB = some (dc uy) := h.get dB (Hp.set_same _ _ _)
          have gC : s3 l12 = some (dc other) := h.get d12 b12
          unfold dc at gB gC
          simp (dsimp := false) (implicitDefEqProofs := false) (disch := first | omega | assumption | (simp only [rL, Nat.reduceAdd]; try omega)) only [↓rD, rU, ev, ofConst, ofCell, ↓reduceIte, Nat.reduceEqDiff, Nat.reduceAdd, Nat.reduceSub, Nat.reduceMul, Nat.reduceLeDiff, Nat.reduceLT, Int.reduceNeg, Int.reduceToNat, Int.reduceAdd, Int.reduceSub, Int.reduceMul, Int.reduceLT, Int.reduceLE, Int.reduceEq, rX, dg_cells, dg_fold, List.drop_succ_cons, u1, u2, t1, Hp.read_of gB, Hp.read_of gC]
          refine call_intro (phash_spec _ s3 l ud (ts ++ ut) ul h (nodeB other ux) o3 (by rw [nodeB_length other ux t1 u1]; omega) (by simp only [List.length_append]; omega)) ?_
          rintro _ s4 ⟨rfl, h⟩
          have gB : s4 lB = some (dc uy) := h.get dB (Hp.set_same _ _ _)
          have gC : s4 l12 = some (dc other) := h.get d12 b12
          have hq := sha256_length (nodeB other ux)
          generalize hge : sha256 (nodeB other ux) = e at *
          unfold dc at gB gC
          simp (dsimp := false) (implicitDefEqProofs := false) (disch := first | omega | assumption | (simp only [rL, Nat.reduceAdd]; try omega)) only [↓rD, rU, ev, ofConst, ofCell, ↓reduceIte, Nat.reduceEqDiff, Nat.reduceAdd, Nat.reduceSub, Nat.reduceMul, Nat.reduceLeDiff, Nat.reduceLT, Int.reduceNeg, Int.reduceToNat, Int.reduceAdd, Int.reduceSub, Int.reduceMul, Int.reduceLT, Int.reduceLE, Int.reduceEq, rX, dg_cells, dg_fold, List.drop_succ_cons, u1, u2, t1, Hp.read_of gB, Hp.read_of gC]
          refine call_intro (node_spec other uy t1 u2 _) ?_
          rintro _ s5 ⟨o5, k5, rfl⟩
          obtain ⟨od', ot', tso', q1', q2'⟩ := h
          have h : PS ((((((s0.set l6 (dc a)).set l10 zc).set l11 zc).set l12 (dc other)).set lA (dc ux)).set lB (dc uy)) l ud (ts ++ ut ++ [nodeB other ux]) ul s5 := ⟨od', ot', tso', q1', q2'.mono k5.sub⟩
          simp (dsimp := false) (implicitDefEqProofs := false) (disch := first | omega | assumption | (simp only [rL, Nat.reduceAdd]; try omega)) only [↓rD, rU, ev, ofConst, ofCell, ↓reduceIte, Nat.reduceEqDiff, Nat.reduceAdd, Nat.reduceSub, Nat.reduceMul, Nat.reduceLeDiff, Nat.reduceLT, Int.reduceNeg, Int.reduceToNat, Int.reduceAdd, Int.reduceSub, Int.reduceMul, Int.reduceLT, Int.reduceLE, Int.reduceEq, rX, dg_cells, dg_fold, List.drop_succ_cons]
          refine call_intro (phash_spec _ s5 l ud _ ul h (nodeB other uy) o5 (by rw [nodeB_length other uy t1 u2]; omega) (by simp only [List.length_append, List.length_cons, List.length_nil]; omega)) ?_
          rintro _ s6 ⟨rfl, h⟩
          have g10 : s6 l10 = some zc := h.get d10 b10
          have g11 : s6 l11 = some zc := h.get d11 b11
          have hq2 := sha256_length (nodeB other uy)
          generalize hge2 : sha256 (nodeB other uy) = e2 at *
          unfold zc at g10 g11
          simp (dsimp := false) (implicitDefEqProofs := false) (disch := first | omega | assumption | (simp only [rL, Nat.reduceAdd]; try omega)) only [↓rD, rU, ev, ofConst, ofCell, ↓reduceIte, Nat.reduceEqDiff, Nat.reduceAdd, Nat.reduceSub, Nat.reduceMul, Nat.reduceLeDiff, Nat.reduceLT, Int.reduceNeg, Int.reduceToNat, Int.reduceAdd, Int.reduceSub, Int.reduceMul, Int.reduceLT, Int.reduceLE, Int.reduceEq, rX, dg_cells, dg_fold, List.drop_succ_cons, u1, u2, Hp.stA_of g10, Hp.stA_of g11, d1110, Ne.symm d1110, hq, hq2, Hp.read_of g10, Hp.read_of g11]
          have h9 := (h.set (l2 := l10) (ob := dc e) (ob' := zc) d10 b10).set (l2 := l11) (ob := dc e2) (ob' := zc) d11 (by rw [Hp.set_ne _ _ d1110]; exact b11)
          rw [List.append_assoc, List.append_assoc] at h9
          refine ⟨_, Hp.sub_refl, ?_⟩
          rw [hu]
          exact ⟨rfl, h9.base (Hp.sub_new (Hp.sub_new hb3 e10') e11')⟩
      · obtain ⟨g10, g11, d1210, d1211, hfin⟩ := fin s1 l12 true h n12 (bothF_end hown htk (.inl rfl))
        unfold zc at g10 g11
        simp (dsimp := false) (implicitDefEqProofs := false) (disch := first | omega | assumption | (simp only [rL, Nat.reduceAdd]; try omega)) only [↓rD, rU, ev, ofConst, ofCell, ↓reduceIte, Nat.reduceEqDiff, Nat.reduceAdd, Nat.reduceSub, Nat.reduceMul, Nat.reduceLeDiff, Nat.reduceLT, Int.reduceNeg, Int.reduceToNat, Int.reduceAdd, Int.reduceSub, Int.reduceMul, Int.reduceLT, Int.reduceLE, Int.reduceEq, rX, dg_cells, dg_fold, List.drop_succ_cons, t1, Ne.symm d12, hr, Hp.stA_of g10, Hp.stA_of g11, Ne.symm d1210, Ne.symm d1211, d1210, d1211, d1110, Ne.symm d1110]
        exact ⟨_, Hp.sub_refl, by rw [bothF_end hown htk (.inl rfl)], hfin⟩
end Go.Proofs.YtnnjjmiahcnbaaaGreat
