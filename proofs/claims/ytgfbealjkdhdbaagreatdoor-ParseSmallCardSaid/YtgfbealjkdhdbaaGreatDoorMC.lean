/- Merged by program from smaller texts; what is proved stands in the last text of the claim. -/
import Derived.Test.YtgfbealjkdhdbaaGreatDoorMB
import Derived.Recover
import Derived.Test.YtgfbealjkdhdbaaGreatDoorProg
import Derived.KernelRfl
set_option linter.all false
namespace Go.Av
open Go
abbrev Dep.{u} {α : Sort u} (_ : α) : Type := Unit
def hid1 {α : Type} (C : α → Prop) (_ : Dep C) (a : α) : Prop := C a
def hid2 {α β : Type} (C : α → β → Prop) (_ : Dep C) (a : α) (b : β) : Prop := C a b
def hidP (p : Prop) (_ : Dep p) : Prop := p
theorem hid1_eq {α : Type} {C : α → Prop} {d : Dep C} {a : α} : hid1 C d a = C a := rfl
theorem hid2_eq {α β : Type} {C : α → β → Prop} {d : Dep C} {a : α} {b : β} : hid2 C d a b = C a b := rfl
theorem hidP_eq {p : Prop} {d : Dep p} : hidP p d = p := rfl
def newK (s : Hp) (C : Nat → Prop) : Prop := ∀ l, s l = none → C l
def andK (A B : Prop) : Prop := A ∧ B
theorem andK_ok {p B : Prop} {d : Dep B} (h : p) : andK p (hidP B d) = B := by simp [andK, hidP, h]
theorem andK_true {B : Prop} {d : Dep B} : andK True (hidP B d) = B := by simp [andK, hidP]
section
variable {P : Ctx} {K : Ex → Fr → Hp → Prop} {f : Fr} {s : Hp}
theorem awp_skip : awp P .skip K f s = K .norm f s := rfl
theorem awp_ret : awp P .ret K f s = K .ret f s := rfl
theorem awp_exit {i : Nat} : awp P (.exit i) K f s = K (.exit i) f s := rfl
theorem awp_seq {a b : ACode} : awp P (.seq a b) K f s = awp P a (seqK (awp P b K) K) f s := rfl
theorem awp_block {i : Nat} {a : ACode} : awp P (.block i a) K f s = awp P a (blockK i K) f s := rfl
theorem awp_plain {ops : List AOper} : awp P (.plain ops) K f s = runL P ops (K .norm) f s := rfl
theorem awp_draw {ops : List AOper} {l : List CO} : awp P (.draw ops l) K f s = can P (nth ops) (K .norm) l f s := rfl
def condK (c : AV) (A B : Prop) : Prop :=
  match c with
  | .v (.bool t) => (t = true → A) ∧ (t = false → B)
  | _ => False
theorem awp_cond {c : Operand} {a b : ACode} : awp P (.cond c a b) K f s = condK (ev f c) (hidP (awp P a K f s) ()) (hidP (awp P b K f s) ()) := rfl
theorem condK_true {A B : Prop} {d : Dep A} : condK (.v (.bool true)) (hidP A d) B = A := by simp [condK, hidP]
theorem condK_false {A B : Prop} {d : Dep B} : condK (.v (.bool false)) A (hidP B d) = B := by simp [condK, hidP]
theorem awp_loopK {a : ACode} : awp P (.loop a) K f s = hidP (awp P (.loop a) K f s) () := rfl
theorem seqK_norm {n : Fr → Hp → Prop} : seqK n K .norm f s = n f s := rfl
theorem seqK_ret {n : Fr → Hp → Prop} : seqK n K .ret f s = K .ret f s := rfl
theorem seqK_exit {n : Fr → Hp → Prop} {i : Nat} : seqK n K (.exit i) f s = K (.exit i) f s := rfl
theorem blockK_norm {i : Nat} : blockK i K .norm f s = K .norm f s := rfl
theorem blockK_ret {i : Nat} : blockK i K .ret f s = K .ret f s := rfl
theorem blockK_exit {i j : Nat} : blockK i K (.exit j) f s = (if j = i then K .norm f s else K (.exit j) f s) := by
  simp only [blockK]; split <;> rfl
theorem blockK_same {i : Nat} : blockK i K (.exit i) f s = K .norm f s := by simp [blockK]
theorem runL_nil {Kf : Fr → Hp → Prop} : runL P [] Kf f s = Kf f s := rfl
theorem runL_cons {Kf : Fr → Hp → Prop} {d : Option Nat} {op : AOp} {r : List AOper} : runL P (⟨d, op, none⟩ :: r) Kf f s = G P op f s (fun x s' => runL P r Kf (putF f d x) s') := rfl
def guardK (c : AV) (want : Bool) (A B : Prop) : Prop :=
  match c with
  | .v (.bool b) => if b = want then A else B
  | .tup [] => B
  | _ => False
theorem runL_guard {Kf : Fr → Hp → Prop} {d : Option Nat} {op : AOp} {g : Nat} {want : Bool} {r : List AOper} :
    runL P (⟨d, op, some (g, want)⟩ :: r) Kf f s = guardK (f g) want (hidP (G P op f s (fun x s' => runL P r Kf (putF f d x) s')) ()) (hidP (runL P r Kf (putF f d (.tup [])) s) ()) := rfl
theorem guardK_tt {A B : Prop} {d : Dep A} : guardK (.v (.bool true)) true (hidP A d) B = A := by simp [guardK, hidP]
theorem guardK_ff {A B : Prop} {d : Dep A} : guardK (.v (.bool false)) false (hidP A d) B = A := by simp [guardK, hidP]
theorem guardK_tf {A B : Prop} {d : Dep B} : guardK (.v (.bool true)) false A (hidP B d) = B := by simp [guardK, hidP]
theorem guardK_ft {A B : Prop} {d : Dep B} : guardK (.v (.bool false)) true A (hidP B d) = B := by simp [guardK, hidP]
theorem guardK_no {w : Bool} {A B : Prop} {d : Dep B} : guardK (.tup []) w A (hidP B d) = B := rfl
theorem can_nil {xs : Nat → AOper} {Kf : Fr → Hp → Prop} : can P xs Kf [] f s = Kf f s := rfl
def tK (x : AOper) (C : AOper → Prop) : Prop := C x
theorem tK_eq {d : Option Nat} {op : AOp} {g : Option (Nat × Bool)} {C : AOper → Prop} : tK ⟨d, op, g⟩ C = C ⟨d, op, g⟩ := rfl
theorem can_cons {xs : Nat → AOper} {Kf : Fr → Hp → Prop} {i : Nat} {r : List CO} : can P xs Kf (⟨i, [], []⟩ :: r) f s = tK (xs i) (hid1 (fun x => T P x (fun f' s' => can P xs Kf r f' s') f s) ()) := by
  simp only [can, List.not_mem_nil, false_implies, implies_true, true_and, tK, hid1]
theorem can_pre {xs : Nat → AOper} {Kf : Fr → Hp → Prop} {i j : Nat} {pre chk : List Nat} {r : List CO} : can P xs Kf (⟨i, j :: pre, chk⟩ :: r) f s = andK (tK (xs j) (hid1 (fun x => Def P x f) ())) (hidP (can P xs Kf (⟨i, pre, chk⟩ :: r) f s) ()) := by
  simp only [can, List.mem_cons, forall_eq_or_imp, andK, tK, hid1, hidP]; exact propext and_assoc
def chkT (P : Ctx) (x : AOper) (f : Fr) (s : Hp) : Prop :=
  match x.dst with
  | some d => E P x f s fun r _ => r = f d
  | none => True
def chkL (P : Ctx) (xs : Nat → AOper) (f : Fr) (s : Hp) : List Nat → Prop → Prop
  | [], A => A
  | j :: r, A => andK (tK (xs j) (hid1 (fun x => chkT P x f s) ())) (hidP (chkL P xs f s r A) ())
theorem chkL_nil {xs : Nat → AOper} {A : Prop} : chkL P xs f s [] A = A := rfl
theorem chkL_cons {xs : Nat → AOper} {j : Nat} {r : List Nat} {A : Prop} : chkL P xs f s (j :: r) A = andK (tK (xs j) (hid1 (fun x => chkT P x f s) ())) (hidP (chkL P xs f s r A) ()) := rfl
theorem chkL_eq {xs : Nat → AOper} {A : Prop} : ∀ l, chkL P xs f s l A = ((∀ j ∈ l, Chk P xs j f s) ∧ A)
  | [] => by simp [chkL]
  | j :: r => by simp only [chkL, chkL_eq r, andK, tK, hid1, hidP, List.mem_cons, forall_eq_or_imp, Chk, chkT]; exact propext and_assoc.symm
theorem can_chk {xs : Nat → AOper} {Kf : Fr → Hp → Prop} {i j : Nat} {chk : List Nat} {r : List CO} : can P xs Kf (⟨i, [], j :: chk⟩ :: r) f s = tK (xs i) (hid1 (fun x => T P x (fun f' s' => chkL P xs f' s' (j :: chk) (can P xs Kf r f' s')) f s) ()) := by
  simp only [can, List.not_mem_nil, false_implies, implies_true, true_and, tK, hid1, chkL_eq]
theorem Def_none {d : Option Nat} {op : AOp} : Def P ⟨d, op, none⟩ f = G P op f Hp.emp (fun _ _ => True) := rfl
theorem chkT_none {d : Nat} {op : AOp} : chkT P ⟨some d, op, none⟩ f s = G P op f s (fun r _ => r = f d) := rfl
theorem newK_true {d : Dep (fun _ : Nat => True)} : newK s (hid1 (fun _ => True) d) = True := by simp [newK, hid1]
theorem nth_zero {x : AOper} {r : List AOper} : nth (x :: r) 0 = x := rfl
theorem nth_succ {x : AOper} {r : List AOper} {i : Nat} : nth (x :: r) (i + 1) = nth r i := rfl
theorem T_none {Kf : Fr → Hp → Prop} {d : Option Nat} {op : AOp} : T P ⟨d, op, none⟩ Kf f s = G P op f s (fun x s' => Kf (putF f d x) s') := rfl
theorem T_guard {Kf : Fr → Hp → Prop} {d : Option Nat} {op : AOp} {g : Nat} {want : Bool} : T P ⟨d, op, some (g, want)⟩ Kf f s = guardK (f g) want (hidP (G P op f s (fun x s' => Kf (putF f d x) s')) ()) (hidP (Kf (putF f d (.tup [])) s) ()) := rfl
theorem putF_get {d t : Nat} {a : AV} : putF f (some d) a t = if t = d then a else f t := rfl
theorem putF_none {t : Nat} {a : AV} : putF f none a t = f t := rfl
def valK (r : Option AV) (C : AV → Prop) : Prop :=
  match r with
  | some r => C r
  | none => False
theorem valK_ite {c : Prop} [Decidable c] {r : AV} {C : AV → Prop} : valK (if c then some r else none) C = (c ∧ C r) := by
  split <;> simp [valK, *]
theorem valK_some {r : AV} {C : AV → Prop} : valK (some r) C = C r := rfl
def letK (r : AV) (C : AV → Prop) : Prop := C r
theorem letK_eq {r : AV} {C : AV → Prop} : letK r C = C r := rfl
def cellK (r : Option (List AV)) (C : List AV → Prop) : Prop :=
  match r with
  | some r => C r
  | none => False
theorem cellK_some {r : List AV} {C : List AV → Prop} : cellK (some r) C = C r := rfl
section
variable {Kv : AV → Hp → Prop}
theorem G_mv {x : Operand} : G P (.mv x) f s Kv = letK (ev f x) (hid1 (fun r => Kv r s) ()) := rfl
def pickA (c a b : AV) : Option AV :=
  match c with
  | .v (.bool t) => some (if t then a else b)
  | _ => none
theorem pickA_true {a b : AV} : pickA (.v (.bool true)) a b = some a := rfl
theorem pickA_false {a b : AV} : pickA (.v (.bool false)) a b = some b := rfl
theorem G_pick {c a b : Operand} : G P (.pick c a b) f s Kv = valK (pickA (ev f c) (ev f a) (ev f b)) (hid1 (fun r => Kv r s) ()) := by
  simp only [G, pickA]; generalize ev f c = a
  cases a <;> first | rfl | (rename_i v; cases v <;> rfl)
theorem G_alloc {T : TypeId} {z : List AV} : G P (.alloc T z) f s Kv = newK s (hid1 (fun l => Kv (.ptr l 0) (s.set l (.cells z))) ()) := rfl
theorem G_box {T : TypeId} {x : Operand} : G P (.box T x) f s Kv = letK (ev f x) (hid1 (fun a => andK (0 < a.cells.length) (hidP (newK s (hid1 (fun l => Kv (.ptr l 0) (s.set l (.cells a.cells))) ())) ())) ()) := rfl
theorem G_boxR {T : TypeId} {x : Operand} : G P (.boxR T x) f s Kv = letK (ev f x) (hid1 (fun a => andK (0 < a.cells.length) (hidP (newK s (hid1 (fun l => Kv (.ptr l 0) (s.set l (.ro a.cells))) ())) ())) ()) := rfl
def loadA (agg : Bool) (n : Nat) (s : Hp) (a : AV) : Option AV :=
  match a with
  | .ptr l off => match s.read l with
    | some cs => if off + n ≤ cs.length then some (mkv agg n (cs.drop off)) else none
    | none => none
  | .rptr cs => if n ≤ cs.length then some (mkv agg n cs) else none
  | _ => none
def rdA (agg : Bool) (n off : Nat) (cs : Option (List AV)) : Option AV :=
  match cs with
  | some cs => if off + n ≤ cs.length then some (mkv agg n (cs.drop off)) else none
  | none => none
theorem loadA_ptr {agg : Bool} {n l off : Nat} : loadA agg n s (.ptr l off) = rdA agg n off (s.read l) := rfl
theorem rdA_some {agg : Bool} {n off : Nat} {cs : List AV} (h : off + n ≤ cs.length) : rdA agg n off (some cs) = some (mkv agg n (cs.drop off)) := by simp [rdA, h]
theorem loadA_rptr {agg : Bool} {n : Nat} {cs : List AV} (h : n ≤ cs.length) : loadA agg n s (.rptr cs) = some (mkv agg n cs) := by simp [loadA, h]
theorem G_load {agg : Bool} {n : Nat} {x : Operand} : G P (.load agg n x) f s Kv = valK (loadA agg n s (ev f x)) (hid1 (fun r => Kv r s) ()) := by
  simp only [G, loadA]; generalize ev f x = a
  cases a <;> first
    | rfl
    | (simp only [valK_ite, hid1_eq]; done)
    | (rename_i l off; simp only []; generalize s.read l = c; cases c <;> first | rfl | (simp only [valK_ite, hid1_eq]))
def stA (s : Hp) (l : Nat) : Option (List AV) :=
  match s l with
  | some (.cells cs) => some cs
  | _ => none
def storeK (s : Hp) (n : Nat) (p : AV) (ys : List AV) (C : Hp → Prop) : Prop :=
  match p with
  | .ptr l off => cellK (stA s l) fun cs => andK (ys.length = n ∧ off + n ≤ cs.length) (C (s.set l (.cells (putAt cs off ys))))
  | _ => False
theorem storeK_ptr {n l off : Nat} {ys : List AV} {C : Hp → Prop} : storeK s n (.ptr l off) ys C = cellK (stA s l) (hid1 (fun cs => andK (ys.length = n ∧ off + n ≤ cs.length) (hidP (cellK (some (putAt cs off ys)) (hid1 (fun zs => C (s.set l (.cells zs))) ())) ())) ()) := rfl
theorem G_store {n : Nat} {x y : Operand} : G P (.store n x y) f s Kv = storeK s n (ev f x) (ev f y).cells (hid1 (fun s' => Kv (.tup []) s') ()) := by
  simp only [G, storeK]; generalize ev f x = a
  cases a <;> first
    | rfl
    | (rename_i l off
       simp only [stA]
       cases s l with
       | none => rfl
       | some o => cases o with
         | cells cs => exact propext and_assoc.symm
         | _ => rfl)
def nilcA (a : AV) : Option AV :=
  match a with
  | .ptr l off => some (.ptr l off)
  | .rptr cs => some (.rptr cs)
  | .clo n ds cs => some (.clo n ds cs)
  | _ => none
theorem nilcA_ptr {l off : Nat} : nilcA (.ptr l off) = some (.ptr l off) := rfl
theorem nilcA_rptr {cs : List AV} : nilcA (.rptr cs) = some (.rptr cs) := rfl
theorem G_nilc {x : Operand} : G P (.nilc x) f s Kv = valK (nilcA (ev f x)) (hid1 (fun r => Kv r s) ()) := by
  simp only [G, nilcA]; generalize ev f x = a
  cases a <;> first | rfl | (rename_i v; cases v <;> rfl)
def faA (off : Nat) (a : AV) : Option AV :=
  match a with
  | .ptr l o => some (.ptr l (o + off))
  | .rptr cs => some (.rptr (cs.drop off))
  | _ => none
theorem faA_ptr {off l o : Nat} : faA off (.ptr l o) = some (.ptr l (o + off)) := rfl
theorem faA_rptr {off : Nat} {cs : List AV} : faA off (.rptr cs) = some (.rptr (cs.drop off)) := rfl
theorem G_fa {off : Nat} {x : Operand} : G P (.fa off x) f s Kv = valK (faA off (ev f x)) (hid1 (fun r => Kv r s) ()) := by
  simp only [G, faA]; generalize ev f x = a
  cases a <;> first | rfl | (rename_i v; cases v <;> rfl)
def iaAA (k len : Nat) (a i : AV) : Option AV :=
  match a, i with
  | .ptr l o, .v (.int _ n) => if 0 ≤ n ∧ n < len then some (.ptr l (o + n.toNat * k)) else none
  | .rptr cs, .v (.int _ n) => if 0 ≤ n ∧ n < len then some (.rptr (cs.drop (n.toNat * k))) else none
  | _, _ => none
theorem iaAA_ptr {k len l o : Nat} {kd : IntKind} {n : Int} (h : 0 ≤ n) (h2 : n < len) : iaAA k len (.ptr l o) (.v (.int kd n)) = some (.ptr l (o + n.toNat * k)) := by simp [iaAA, h, h2]
theorem iaAA_rptr {k len : Nat} {cs : List AV} {kd : IntKind} {n : Int} (h : 0 ≤ n) (h2 : n < len) : iaAA k len (.rptr cs) (.v (.int kd n)) = some (.rptr (cs.drop (n.toNat * k))) := by simp [iaAA, h, h2]
theorem G_iaA {k len : Nat} {x i : Operand} : G P (.iaA k len x i) f s Kv = valK (iaAA k len (ev f x) (ev f i)) (hid1 (fun r => Kv r s) ()) := by
  simp only [G, iaAA]; generalize ev f x = a; generalize ev f i = b
  cases a <;> first
    | rfl
    | (cases b <;> first
        | rfl
        | (rename_i w; cases w <;> first
            | rfl
            | (simp only [valK_ite, hid1_eq]; exact propext and_assoc.symm)))
def elA (k : Nat) (e : Option AV) : Option AV :=
  match e with
  | some e => if e.cells.length = k then some (.rptr e.cells) else none
  | none => none
theorem elA_some {k : Nat} {e : AV} (h : e.cells.length = k) : elA k (some e) = some (.rptr e.cells) := by simp [elA, h]
def iaSA (k : Nat) (a i : AV) : Option AV :=
  match a, i with
  | .sl xs _, .v (.int _ n) => if 0 ≤ n then elA k xs[n.toNat]? else none
  | .msl l off len k', .v (.int _ n) => if k' = k ∧ 0 ≤ n ∧ n < len then some (.ptr l (off + n.toNat * k)) else none
  | .mb l len _ k', .v (.int _ n) => if k' = k ∧ 0 ≤ n ∧ n < len then some (.ptr l (n.toNat * k)) else none
  | _, _ => none
theorem iaSA_sl {k : Nat} {xs : List AV} {o : Own} {kd : IntKind} {n : Int} (h : 0 ≤ n) : iaSA k (.sl xs o) (.v (.int kd n)) = elA k xs[n.toNat]? := by simp [iaSA, h]
theorem iaSA_mb {k l len cap : Nat} {kd : IntKind} {n : Int} (h : 0 ≤ n) (h2 : n < len) : iaSA k (.mb l len cap k) (.v (.int kd n)) = some (.ptr l (n.toNat * k)) := by simp [iaSA, h, h2]
theorem iaSA_msl {k l off len : Nat} {kd : IntKind} {n : Int} (h : 0 ≤ n) (h2 : n < len) : iaSA k (.msl l off len k) (.v (.int kd n)) = some (.ptr l (off + n.toNat * k)) := by simp [iaSA, h, h2]
theorem G_iaS {k : Nat} {x i : Operand} : G P (.iaS k x i) f s Kv = valK (iaSA k (ev f x) (ev f i)) (hid1 (fun r => Kv r s) ()) := by
  simp only [G, iaSA]; generalize ev f x = a; generalize ev f i = b
  cases a <;> first
    | rfl
    | (cases b <;> first
        | rfl
        | (rename_i w; cases w <;> first
            | rfl
            | (simp only [valK_ite, hid1_eq]; apply propext; constructor
               · rintro ⟨h1, h2, h3, h4⟩; exact ⟨⟨h1, h2, h3⟩, h4⟩
               · rintro ⟨⟨h1, h2, h3⟩, h4⟩; exact ⟨h1, h2, h3, h4⟩)
            | (rename_i xs o kd n
               by_cases h : 0 ≤ n
               · simp only [h, true_and, if_true, elA]
                 generalize xs[n.toNat]? = c
                 cases c <;> first | rfl | (simp only [valK_ite, hid1_eq])
               · simp [h, valK])))
def fldA (agg : Bool) (off n : Nat) (a : AV) : Option AV :=
  match a with
  | .agg cs => if off + n ≤ cs.length then some (mkv agg n (cs.drop off)) else none
  | _ => none
theorem fldA_agg {agg : Bool} {off n : Nat} {cs : List AV} (h : off + n ≤ cs.length) : fldA agg off n (.agg cs) = some (mkv agg n (cs.drop off)) := by simp [fldA, h]
theorem G_fld {agg : Bool} {off n : Nat} {x : Operand} : G P (.fld agg off n x) f s Kv = valK (fldA agg off n (ev f x)) (hid1 (fun r => Kv r s) ()) := by
  simp only [G, fldA]; generalize ev f x = a
  cases a <;> first | rfl | (simp only [valK_ite, hid1_eq])
def idxAA (agg : Bool) (k len : Nat) (a i : AV) : Option AV :=
  match a, i with
  | .agg cs, .v (.int _ n) => if 0 ≤ n ∧ n < len ∧ n.toNat * k + k ≤ cs.length then some (mkv agg k (cs.drop (n.toNat * k))) else none
  | _, _ => none
theorem idxAA_agg {agg : Bool} {k len : Nat} {cs : List AV} {kd : IntKind} {n : Int} (h : 0 ≤ n) (h2 : n < len) (h3 : n.toNat * k + k ≤ cs.length) : idxAA agg k len (.agg cs) (.v (.int kd n)) = some (mkv agg k (cs.drop (n.toNat * k))) := by simp [idxAA, h, h2, h3]
theorem G_idxA {agg : Bool} {k len : Nat} {x i : Operand} : G P (.idxA agg k len x i) f s Kv = valK (idxAA agg k len (ev f x) (ev f i)) (hid1 (fun r => Kv r s) ()) := by
  simp only [G, idxAA]; generalize ev f x = a; generalize ev f i = b
  cases a <;> first
    | rfl
    | (cases b <;> first
        | rfl
        | (rename_i w; cases w <;> first
            | rfl
            | (simp only [valK_ite, hid1_eq]; apply propext; constructor
               · rintro ⟨h1, h2, h3, h4⟩; exact ⟨⟨h1, h2, h3⟩, h4⟩
               · rintro ⟨⟨h1, h2, h3⟩, h4⟩; exact ⟨h1, h2, h3, h4⟩)))
def bldK (f : Fr) (cells : List AV) : List (Nat × Nat × Operand) → (List AV → Prop) → Prop
  | [], C => C cells
  | (off, sz, x) :: r, C => letK (ev f x) fun a => andK (a.cells.length = sz ∧ off + sz ≤ cells.length) (cellK (some (putAt cells off a.cells)) fun zs => bldK f zs r C)
theorem bldK_nil {cells : List AV} {C : List AV → Prop} : bldK f cells [] C = C cells := rfl
theorem bldK_cons {cells : List AV} {off sz : Nat} {x : Operand} {r : List (Nat × Nat × Operand)} {C : List AV → Prop} : bldK f cells ((off, sz, x) :: r) C = letK (ev f x) (hid1 (fun a => andK (a.cells.length = sz ∧ off + sz ≤ cells.length) (hidP (cellK (some (putAt cells off a.cells)) (hid1 (fun zs => bldK f zs r C) ())) ())) ()) := rfl
theorem bldK_eq {C : List AV → Prop} : ∀ (parts : List (Nat × Nat × Operand)) (cells : List AV), fillG f cells parts C = bldK f cells parts C
  | [], _ => rfl
  | (off, sz, x) :: r, cells => by
    simp only [fillG, bldK, letK, andK, cellK, bldK_eq r]
    exact propext and_assoc.symm
theorem G_bld {z : List AV} {parts : List (Nat × Nat × Operand)} : G P (.bld z parts) f s Kv = bldK f z parts fun cs => Kv (.agg cs) s := bldK_eq parts z
def lenAA (a : AV) : Option AV :=
  match a with
  | .sl xs _ => some (.v (.int .i64 xs.length))
  | .msl _ _ n _ => some (.v (.int .i64 n))
  | .mb _ n _ _ => some (.v (.int .i64 n))
  | _ => none
theorem lenAA_mb {l n cap k : Nat} : lenAA (.mb l n cap k) = some (.v (.int .i64 n)) := rfl
theorem lenAA_sl {xs : List AV} {o : Own} : lenAA (.sl xs o) = some (.v (.int .i64 xs.length)) := rfl
theorem lenAA_msl {l off n k : Nat} : lenAA (.msl l off n k) = some (.v (.int .i64 n)) := rfl
theorem G_len {x : Operand} : G P (.len x) f s Kv = valK (lenAA (ev f x)) (hid1 (fun r => Kv r s) ()) := by
  simp only [G, lenAA]; generalize ev f x = a
  cases a <;> rfl
theorem G_lenA {n : Nat} : G P (.lenA n) f s Kv = Kv (.v (.int .i64 n)) s := rfl
def binA (op : BinOp) (a b : AV) : Option AV :=
  match a, b with
  | .v a, .v b => (binV op a b).map .v
  | _, _ => none
theorem binA_v {op : BinOp} {a b : Value} : binA op (.v a) (.v b) = (binV op a b).map .v := rfl
theorem G_bin {op : BinOp} {x y : Operand} : G P (.bin op x y) f s Kv = valK (binA op (ev f x) (ev f y)) (hid1 (fun r => Kv r s) ()) := by
  simp only [G, binA]; generalize ev f x = a; generalize ev f y = b
  cases a <;> first
    | rfl
    | (cases b <;> first
        | rfl
        | (rename_i v w; simp only []; generalize binV op v w = c; cases c <;> rfl))
def unA (op : UnOp) (a : AV) : Option AV :=
  match a with
  | .v a => (unV op a).map .v
  | _ => none
theorem unA_v {op : UnOp} {a : Value} : unA op (.v a) = (unV op a).map .v := rfl
theorem G_un {op : UnOp} {x : Operand} : G P (.un op x) f s Kv = valK (unA op (ev f x)) (hid1 (fun r => Kv r s) ()) := by
  simp only [G, unA]; generalize ev f x = a
  cases a <;> first | rfl | (rename_i v; simp only []; generalize unV op v = c; cases c <;> rfl)
def cvtA (k : IntKind) (a : AV) : Option AV :=
  match a with
  | .v (.int _ n) => some (.v (.int k (k.wrap n)))
  | _ => none
theorem cvtA_int {k k' : IntKind} {n : Int} : cvtA k (.v (.int k' n)) = some (.v (.int k (k.wrap n))) := rfl
theorem G_cvt {k : IntKind} {x : Operand} : G P (.cvt k x) f s Kv = valK (cvtA k (ev f x)) (hid1 (fun r => Kv r s) ()) := by
  simp only [G, cvtA]; generalize ev f x = a
  cases a <;> first | rfl | (rename_i v; cases v <;> rfl)
def callK (P : Ctx) (g : FuncId) (args : List AV) (s : Hp) (C : AV → Hp → Prop) : Prop := ACp P.p g args s C (up P.k)
theorem G_callF {g : FuncId} {args : List Operand} : G P (.callF g args) f s Kv = callK P g (args.map (ev f)) s (hid2 Kv ()) := rfl
def extA (i : Nat) (a : AV) : Option AV :=
  match a with
  | .tup vs => vs[i]?
  | _ => none
theorem extA_tup {i : Nat} {vs : List AV} : extA i (.tup vs) = vs[i]? := rfl
theorem G_ext {x : Operand} {i : Nat} : G P (.ext x i) f s Kv = valK (extA i (ev f x)) (hid1 (fun r => Kv r s) ()) := by
  simp only [G, extA]; generalize ev f x = a
  cases a <;> first | rfl | (rename_i vs; cases vs[i]? <;> rfl)
def eqbA (neg : Bool) (a b : AV) : Option AV :=
  match a, b with
  | .v (.bool a), .v (.bool b) => some (.v (.bool (xor neg (a == b))))
  | _, _ => none
theorem eqbA_b {neg a b : Bool} : eqbA neg (.v (.bool a)) (.v (.bool b)) = some (.v (.bool (xor neg (a == b)))) := rfl
theorem G_eqb {neg : Bool} {x y : Operand} : G P (.eqb neg x y) f s Kv = valK (eqbA neg (ev f x) (ev f y)) (hid1 (fun r => Kv r s) ()) := by
  simp only [G, eqbA]; generalize ev f x = a; generalize ev f y = b
  cases a <;> first
    | rfl
    | (rename_i v; cases v <;> first
        | rfl
        | (cases b <;> first | rfl | (rename_i w; cases w <;> first | rfl | (rename_i q; cases q <;> rfl)))
        | (rename_i q; cases q <;> first | rfl | (cases b <;> first | rfl | (rename_i w; cases w <;> first | rfl | (rename_i q; cases q <;> rfl)))))
    | (cases b <;> first | rfl | (rename_i w; cases w <;> first | rfl | (rename_i q; cases q <;> rfl)))
def eqpA (neg : Bool) (a b : AV) : Option AV :=
  match a, b with
  | .ptr _ _, .v (.pointer none) => some (.v (.bool neg))
  | .rptr _, .v (.pointer none) => some (.v (.bool neg))
  | .v (.pointer none), .v (.pointer none) => some (.v (.bool (!neg)))
  | _, _ => none
theorem eqpA_ptr {neg : Bool} {l o : Nat} : eqpA neg (.ptr l o) (.v (.pointer none)) = some (.v (.bool neg)) := rfl
theorem eqpA_rptr {neg : Bool} {cs : List AV} : eqpA neg (.rptr cs) (.v (.pointer none)) = some (.v (.bool neg)) := rfl
theorem eqpA_nil {neg : Bool} : eqpA neg (.v (.pointer none)) (.v (.pointer none)) = some (.v (.bool (!neg))) := rfl
theorem G_eqp {neg : Bool} {x y : Operand} : G P (.eqp neg x y) f s Kv = valK (eqpA neg (ev f x) (ev f y)) (hid1 (fun r => Kv r s) ()) := by
  simp only [G, eqpA]; generalize ev f x = a; generalize ev f y = b
  cases a <;> first
    | rfl
    | (rename_i v; cases v <;> first
        | rfl
        | (cases b <;> first | rfl | (rename_i w; cases w <;> first | rfl | (rename_i q; cases q <;> rfl)))
        | (rename_i q; cases q <;> first | rfl | (cases b <;> first | rfl | (rename_i w; cases w <;> first | rfl | (rename_i q; cases q <;> rfl)))))
    | (cases b <;> first | rfl | (rename_i w; cases w <;> first | rfl | (rename_i q; cases q <;> rfl)))
def intOf (a : AV) : Option Int :=
  match a with
  | .v (.int _ n) => some n
  | _ => none
end
def postR (rs : List (Nat × Option (Bool × Nat))) (R : AV → Hp → Prop) : Ex → Fr → Hp → Prop := postF ⟨0, 0, .skip, rs⟩ R
theorem AC_run {P : Program} (hm : P.follows .mixedOrders = true) {m : Nat} {g n np : Nat} {c : ACode} {rs : List (Nat × Option (Bool × Nat))} (hF : prepFunc P m g = some ⟨n, np, c, rs⟩) {args : List AV} {R : AV → Hp → Prop} (hlen : args.length ≤ n)
    (h : awp (Ctx.of P) c (postR rs R) (initF args) s) : AC P g args s R := by
  refine AC_of hm hF hlen ?_
  have e : postF ⟨n, np, c, rs⟩ R = postR rs R := by
    funext e f s; cases e <;> rfl
  rw [e]; exact h
theorem ACp_run {P : Program} (hm : P.follows .mixedOrders = true) {m : Nat} {g n np : Nat} {c : ACode} {rs : List (Nat × Option (Bool × Nat))} (hF : prepFunc P m g = some ⟨n, np, c, rs⟩) {args : List AV} {R Rp : AV → Hp → Prop} (hlen : args.length ≤ n)
    (h : awp ⟨P, Rp⟩ c (postR rs R) (initF args) s) : ACp P g args s R (up Rp) := by
  refine ACp_of hm hF hlen ?_
  have e : postF ⟨n, np, c, rs⟩ R = postR rs R := by
    funext e f s; cases e <;> rfl
  rw [e]; exact h
theorem initF_get {args : List AV} {t : Nat} : initF args t = args.getD t (.tup []) := rfl
theorem postF_ret {F : AFunc} {R : AV → Hp → Prop} : postF F R .ret f s = valK (resAll f s F.results) fun r => ∃ s', s'.sub s ∧ R r s' := by
  apply propext
  simp only [postF]
  constructor
  · rintro ⟨r, s', h, h2, h3⟩; rw [h]; exact ⟨s', h2, h3⟩
  · intro h
    cases hr : resAll f s F.results with
    | none => rw [hr] at h; exact h.elim
    | some r => rw [hr] at h; obtain ⟨s', h2, h3⟩ := h; exact ⟨r, s', rfl, h2, h3⟩
theorem postR_ret {rs : List (Nat × Option (Bool × Nat))} {R : AV → Hp → Prop} : postR rs R .ret f s = valK (resAll f s rs) (hid1 (fun r => ∃ s', s'.sub s ∧ R r s') ()) := postF_ret
theorem postR_norm {rs : List (Nat × Option (Bool × Nat))} {R : AV → Hp → Prop} : postR rs R .norm f s = postR rs R .ret f s := rfl
theorem resAll_two {p q : Nat × Option (Bool × Nat)} {r u : AV} (h : resG f s p = some r) (h2 : resG f s q = some u) : resAll f s [p, q] = some (.tup [r, u]) := by
  simp only [resAll, mapAll, h, h2]
theorem resAll_none : resAll f s [] = some (.tup []) := rfl
theorem resAll_one {p : Nat × Option (Bool × Nat)} : resAll f s [p] = resG f s p := by
  simp only [resAll, mapAll]; cases resG f s p <;> rfl
theorem resG_tmp {t : Nat} : resG f s (t, none) = some (f t) := rfl
def resP (agg : Bool) (n : Nat) (s : Hp) (a : AV) : Option AV :=
  match a with
  | .ptr l off => rdA agg n off (s.read l)
  | _ => none
theorem resP_ptr {agg : Bool} {n l off : Nat} : resP agg n s (.ptr l off) = rdA agg n off (s.read l) := rfl
theorem resG_ptr {t n : Nat} {agg : Bool} : resG f s (t, some (agg, n)) = resP agg n s (f t) := by
  simp only [resG, resP]; generalize f t = a
  cases a <;> first | rfl | (simp only [rdA])
theorem Hp.set_get {l l' : Nat} {o : Ob} : (s.set l o) l' = if l' = l then some o else s l' := rfl
theorem Hp.read_set_same {l : Nat} {cs : List AV} : (s.set l (.cells cs)).read l = some cs := by simp [Hp.read, Hp.set]
theorem Hp.read_set_ro {l : Nat} {cs : List AV} : (s.set l (.ro cs)).read l = some cs := by simp [Hp.read, Hp.set]
theorem Hp.read_set_ne {l l' : Nat} {o : Ob} (h : l' ≠ l) : (s.set l o).read l' = s.read l' := by simp [Hp.read, Hp.set, h]
theorem Hp.stA_set_same {l : Nat} {cs : List AV} : stA (s.set l (.cells cs)) l = some cs := by simp [stA, Hp.set]
theorem Hp.stA_set_ne {l l' : Nat} {o : Ob} (h : l' ≠ l) : stA (s.set l o) l' = stA s l' := by simp [stA, Hp.set, h]
theorem Hp.read_of {l : Nat} {cs : List AV} (h : s l = some (.cells cs)) : s.read l = some cs := by simp [Hp.read, h]
theorem Hp.stA_of {l : Nat} {cs : List AV} (h : s l = some (.cells cs)) : stA s l = some cs := by simp [stA, h]
theorem Hp.set_in1 {a b0 : Nat} {oa oc o0 : Ob} (h0 : b0 ≠ a) : ((s.set a oa).set b0 o0).set a oc = ((s.set a oc).set b0 o0) := by rw [Hp.set_set_comm _ h0, Hp.set_set]
theorem Hp.set_in2 {a b0 b1 : Nat} {oa oc o0 o1 : Ob} (h0 : b0 ≠ a) (h1 : b1 ≠ a) : (((s.set a oa).set b0 o0).set b1 o1).set a oc = (((s.set a oc).set b0 o0).set b1 o1) := by rw [Hp.set_set_comm _ h1, set_in1 h0]
theorem Hp.set_in3 {a b0 b1 b2 : Nat} {oa oc o0 o1 o2 : Ob} (h0 : b0 ≠ a) (h1 : b1 ≠ a) (h2 : b2 ≠ a) : ((((s.set a oa).set b0 o0).set b1 o1).set b2 o2).set a oc = ((((s.set a oc).set b0 o0).set b1 o1).set b2 o2) := by rw [Hp.set_set_comm _ h2, set_in2 h0 h1]
theorem Hp.set_in4 {a b0 b1 b2 b3 : Nat} {oa oc o0 o1 o2 o3 : Ob} (h0 : b0 ≠ a) (h1 : b1 ≠ a) (h2 : b2 ≠ a) (h3 : b3 ≠ a) : (((((s.set a oa).set b0 o0).set b1 o1).set b2 o2).set b3 o3).set a oc = (((((s.set a oc).set b0 o0).set b1 o1).set b2 o2).set b3 o3) := by rw [Hp.set_set_comm _ h3, set_in3 h0 h1 h2]
theorem Hp.set_in5 {a b0 b1 b2 b3 b4 : Nat} {oa oc o0 o1 o2 o3 o4 : Ob} (h0 : b0 ≠ a) (h1 : b1 ≠ a) (h2 : b2 ≠ a) (h3 : b3 ≠ a) (h4 : b4 ≠ a) : ((((((s.set a oa).set b0 o0).set b1 o1).set b2 o2).set b3 o3).set b4 o4).set a oc = ((((((s.set a oc).set b0 o0).set b1 o1).set b2 o2).set b3 o3).set b4 o4) := by rw [Hp.set_set_comm _ h4, set_in4 h0 h1 h2 h3]
theorem Hp.set_in6 {a b0 b1 b2 b3 b4 b5 : Nat} {oa oc o0 o1 o2 o3 o4 o5 : Ob} (h0 : b0 ≠ a) (h1 : b1 ≠ a) (h2 : b2 ≠ a) (h3 : b3 ≠ a) (h4 : b4 ≠ a) (h5 : b5 ≠ a) : (((((((s.set a oa).set b0 o0).set b1 o1).set b2 o2).set b3 o3).set b4 o4).set b5 o5).set a oc = (((((((s.set a oc).set b0 o0).set b1 o1).set b2 o2).set b3 o3).set b4 o4).set b5 o5) := by rw [Hp.set_set_comm _ h5, set_in5 h0 h1 h2 h3 h4]
theorem Hp.set_in7 {a b0 b1 b2 b3 b4 b5 b6 : Nat} {oa oc o0 o1 o2 o3 o4 o5 o6 : Ob} (h0 : b0 ≠ a) (h1 : b1 ≠ a) (h2 : b2 ≠ a) (h3 : b3 ≠ a) (h4 : b4 ≠ a) (h5 : b5 ≠ a) (h6 : b6 ≠ a) : ((((((((s.set a oa).set b0 o0).set b1 o1).set b2 o2).set b3 o3).set b4 o4).set b5 o5).set b6 o6).set a oc = ((((((((s.set a oc).set b0 o0).set b1 o1).set b2 o2).set b3 o3).set b4 o4).set b5 o5).set b6 o6) := by rw [Hp.set_set_comm _ h6, set_in6 h0 h1 h2 h3 h4 h5]
theorem Hp.set_in8 {a b0 b1 b2 b3 b4 b5 b6 b7 : Nat} {oa oc o0 o1 o2 o3 o4 o5 o6 o7 : Ob} (h0 : b0 ≠ a) (h1 : b1 ≠ a) (h2 : b2 ≠ a) (h3 : b3 ≠ a) (h4 : b4 ≠ a) (h5 : b5 ≠ a) (h6 : b6 ≠ a) (h7 : b7 ≠ a) : (((((((((s.set a oa).set b0 o0).set b1 o1).set b2 o2).set b3 o3).set b4 o4).set b5 o5).set b6 o6).set b7 o7).set a oc = (((((((((s.set a oc).set b0 o0).set b1 o1).set b2 o2).set b3 o3).set b4 o4).set b5 o5).set b6 o6).set b7 o7) := by rw [Hp.set_set_comm _ h7, set_in7 h0 h1 h2 h3 h4 h5 h6]
theorem newK_intro {C : Nat → Prop} {d : Dep C} (h : ∀ l, s l = none → C l) : newK s (hid1 C d) := h
theorem loop_intro {P : Ctx} {K : Ex → Fr → Hp → Prop} {a : ACode} {d : Dep (awp P (.loop a) K f s)} (I : Fr → Hp → Prop) (m : Fr → Hp → Nat) (h0 : I f s) (h : ∀ f s, I f s → awp P a (seqK (fun f' s' => I f' s' ∧ m f' s' < m f s) K) f s) :
    hidP (awp P (.loop a) K f s) d := ⟨I, m, h0, h⟩
theorem call_intro {P : Ctx} {g : FuncId} {args : List AV} {C R : AV → Hp → Prop} {d : Dep C} (h : AC P.p g args s R) (hr : ∀ r s', R r s' → C r s') : callK P g args s (hid2 C d) := (h.mono hr).p
theorem callp_intro {P : Ctx} {g : FuncId} {args : List AV} {C R Rp : AV → Hp → Prop} {d : Dep C} (h : ACp P.p g args s R (up Rp)) (hr : ∀ r s', R r s' → C r s') (hp : ∀ r s', Rp r s' → P.k r s') : callK P g args s (hid2 C d) := h.mono hr (fun _ _ => up_mono hp)
theorem Hp.sub_refl : s.sub s := fun _ _ h => h
theorem Hp.sub_new {t : Hp} {l : Nat} {o : Ob} (h : t.sub s) (hl : t l = none) : t.sub (s.set l o) := fun l' o' ho => by
  rw [Hp.set_get]; split
  · rename_i e; subst e; rw [hl] at ho; cases ho
  · exact h _ _ ho
theorem Hp.sub_set {t : Hp} {l : Nat} {o : Ob} (h : t.sub s) : (t.set l o).sub (s.set l o) := fun l' o' ho => by
  rw [Hp.set_get] at ho ⊢; split
  · rename_i e; rw [if_pos e] at ho; exact ho
  · rename_i e; rw [if_neg e] at ho; exact h _ _ ho
end
theorem wrap_i64 {n : Int} (h : -9223372036854775808 ≤ n) (h2 : n < 9223372036854775808) : IntKind.i64.wrap n = n := by
  have e1 : ((2 : Int) ^ IntKind.i64.bits) = 18446744073709551616 := rfl
  have e2 : ((2 : Int) ^ (IntKind.i64.bits - 1)) = 9223372036854775808 := rfl
  simp only [IntKind.wrap, e1, e2, IntKind.signed, Bool.true_and, decide_eq_true_eq]
  split <;> omega
theorem wrap_u64_mod {n : Int} : IntKind.u64.wrap n = n % 18446744073709551616 := by
  have e1 : ((2 : Int) ^ IntKind.u64.bits) = 18446744073709551616 := rfl
  simp [IntKind.wrap, e1, IntKind.signed]
theorem wrap_u32_mod {n : Int} : IntKind.u32.wrap n = n % 4294967296 := by
  have e1 : ((2 : Int) ^ IntKind.u32.bits) = 4294967296 := rfl
  simp [IntKind.wrap, e1, IntKind.signed]
theorem wrap_u8_mod {n : Int} : IntKind.u8.wrap n = n % 256 := by
  have e1 : ((2 : Int) ^ IntKind.u8.bits) = 256 := rfl
  simp [IntKind.wrap, e1, IntKind.signed]
theorem wrap_u64 {n : Int} (h : 0 ≤ n) (h2 : n < 18446744073709551616) : IntKind.u64.wrap n = n := by rw [wrap_u64_mod]; omega
theorem wrap_u32 {n : Int} (h : 0 ≤ n) (h2 : n < 4294967296) : IntKind.u32.wrap n = n := by rw [wrap_u32_mod]; omega
theorem wrap_u8 {n : Int} (h : 0 ≤ n) (h2 : n < 256) : IntKind.u8.wrap n = n := by rw [wrap_u8_mod]; omega
theorem wrap_u32_8 (b : UInt8) : IntKind.u32.wrap (b.toNat : Int) = (b.toUInt32.toNat : Int) := by
  have := b.toNat_lt
  rw [wrap_u32 (by omega) (by omega)]; simp
theorem wrap_u64_8 (b : UInt8) : IntKind.u64.wrap (b.toNat : Int) = (b.toUInt64.toNat : Int) := by
  have := b.toNat_lt
  rw [wrap_u64 (by omega) (by omega)]; simp
theorem wrap_u8_32 (x : UInt32) : IntKind.u8.wrap (x.toNat : Int) = (x.toUInt8.toNat : Int) := by
  rw [wrap_u8_mod]; simp
theorem wrap_u8_64 (x : UInt64) : IntKind.u8.wrap (x.toNat : Int) = (x.toUInt8.toNat : Int) := by
  rw [wrap_u8_mod]; simp
section
variable (a b : Int)
theorem add_i64 : binV .add (.int .i64 a) (.int .i64 b) = some (.int .i64 (IntKind.i64.wrap (a + b))) := rfl
theorem sub_i64 : binV .sub (.int .i64 a) (.int .i64 b) = some (.int .i64 (IntKind.i64.wrap (a - b))) := rfl
theorem mul_i64 : binV .mul (.int .i64 a) (.int .i64 b) = some (.int .i64 (IntKind.i64.wrap (a * b))) := rfl
theorem quo_i64 (h : b ≠ 0) : binV .quo (.int .i64 a) (.int .i64 b) = some (.int .i64 (IntKind.i64.wrap (a.tdiv b))) := by simp [binV, isShift, binInt, h]
theorem rem_i64 (h : b ≠ 0) : binV .rem (.int .i64 a) (.int .i64 b) = some (.int .i64 (a.tmod b)) := by simp [binV, isShift, binInt, h]
variable (k : IntKind)
theorem eql_int : binV .eql (.int k a) (.int k b) = some (.bool (decide (a = b))) := by simp [binV, isShift, binInt]
theorem neq_int : binV .neq (.int k a) (.int k b) = some (.bool (decide (a ≠ b))) := by simp [binV, isShift, binInt]
theorem lss_int : binV .lss (.int k a) (.int k b) = some (.bool (decide (a < b))) := by simp [binV, isShift, binInt]
theorem leq_int : binV .leq (.int k a) (.int k b) = some (.bool (decide (a ≤ b))) := by simp [binV, isShift, binInt]
theorem gtr_int : binV .gtr (.int k a) (.int k b) = some (.bool (decide (b < a))) := by simp [binV, isShift, binInt]
theorem geq_int : binV .geq (.int k a) (.int k b) = some (.bool (decide (b ≤ a))) := by simp [binV, isShift, binInt]
theorem not_bool (t : Bool) : unV .not (.bool t) = some (.bool !t) := rfl
end
theorem add_u64 (a b : Int) : binV .add (.int .u64 a) (.int .u64 b) = some (.int .u64 (IntKind.u64.wrap (a + b))) := rfl
theorem sub_u64 (a b : Int) : binV .sub (.int .u64 a) (.int .u64 b) = some (.int .u64 (IntKind.u64.wrap (a - b))) := rfl
theorem mul_u64 (a b : Int) : binV .mul (.int .u64 a) (.int .u64 b) = some (.int .u64 (IntKind.u64.wrap (a * b))) := rfl
theorem shr_u64 (m : Nat) (k : IntKind) (n : Int) (h : 0 ≤ n) (h2 : n < 64) : binV .shr (.int .u64 m) (.int k n) = some (.int .u64 (m >>> n.toNat : Nat)) := by
  obtain ⟨q, rfl⟩ : ∃ q : Nat, n = q := ⟨n.toNat, by omega⟩
  have e : min q IntKind.u64.bits = q := by simp [IntKind.bits]; omega
  have hp : (2 : Int) ^ q = ((2 ^ q : Nat) : Int) := by simp
  simp only [binV, isShift, if_true, shiftInt, if_neg (show ¬ (q : Int) < 0 by omega), Int.toNat_natCast, e, Nat.shiftRight_eq_div_pow]
  rw [hp, Int.fdiv_eq_ediv_of_nonneg _ (Int.natCast_nonneg _), ← Int.natCast_ediv]
theorem iaSA_bytes {bs : List UInt8} {o : Own} {kd : IntKind} {n : Int} (h : 0 ≤ n) (h2 : n.toNat < bs.length) : iaSA 1 (.sl (bs.map byteAV) o) (.v (.int kd n)) = some (.rptr [.v (.int .u8 (bs.getD n.toNat 0).toNat)]) := by
  rw [iaSA_sl h, List.getElem?_map, List.getElem?_eq_getElem h2]
  have : bs.getD n.toNat 0 = bs[n.toNat] := by simp [List.getD, h2]
  rw [this]; rfl
theorem dec_t (h : Decidable True) : @decide True h = true := by simp
theorem dec_f (h : Decidable False) : @decide False h = false := by simp
theorem mkv_agg {n : Nat} {cs : List AV} : mkv true n cs = .agg (cs.take n) := rfl
theorem cells_sl {xs : List AV} {o : Own} : AV.cells (.sl xs o) = [.sl xs o] := rfl
theorem cells_v {x : Value} : AV.cells (.v x) = [.v x] := rfl
theorem cells_ptr {l o : Nat} : AV.cells (.ptr l o) = [.ptr l o] := rfl
theorem cells_rptr {cs : List AV} : AV.cells (.rptr cs) = [.rptr cs] := rfl
theorem cells_iface {t : TypeId} {x : AV} : AV.cells (.iface t x) = [.iface t x] := rfl
theorem cells_agg {cs : List AV} : AV.cells (.agg cs) = cs := rfl
theorem putAt_all {cs ys : List AV} (h : ys.length = cs.length) : putAt cs 0 ys = ys := by simp [putAt, h]
theorem mkv_one {x : AV} {r : List AV} : mkv false 1 (x :: r) = x := rfl
section
variable (x y : UInt32)
theorem add_u32 : binV .add (.int .u32 x.toNat) (.int .u32 y.toNat) = some (.int .u32 (x + y).toNat) := by
  simp [binV, isShift, binInt, wrap_u32_mod, UInt32.toNat_add]
theorem sub_u32 : binV .sub (.int .u32 x.toNat) (.int .u32 y.toNat) = some (.int .u32 (x - y).toNat) := by
  have := x.toNat_lt; have := y.toNat_lt
  simp only [binV, isShift, binInt, wrap_u32_mod, UInt32.toNat_sub]
  simp; omega
theorem mul_u32 : binV .mul (.int .u32 x.toNat) (.int .u32 y.toNat) = some (.int .u32 (x * y).toNat) := by
  simp [binV, isShift, binInt, wrap_u32_mod, UInt32.toNat_mul]
theorem wrap_u32_nat (n : Nat) (h : n < 4294967296) : IntKind.u32.wrap (n : Int) = n := wrap_u32 (by omega) (by omega)
theorem ofInt_u32 : BitVec.ofInt 32 (x.toNat : Int) = x.toBitVec := by
  rw [BitVec.ofInt_natCast]; exact BitVec.eq_of_toNat_eq (by simp)
theorem and_u32 : binV .and (.int .u32 x.toNat) (.int .u32 y.toNat) = some (.int .u32 (x &&& y).toNat) := by
  have h : binV .and (.int .u32 x.toNat) (.int .u32 y.toNat) = some (.int .u32 (IntKind.u32.wrap (BitVec.ofInt 32 (x.toNat : Int) &&& BitVec.ofInt 32 (y.toNat : Int)).toNat)) := rfl
  rw [h, ofInt_u32, ofInt_u32, wrap_u32_nat _ (BitVec.isLt _)]; rfl
theorem or_u32 : binV .or (.int .u32 x.toNat) (.int .u32 y.toNat) = some (.int .u32 (x ||| y).toNat) := by
  have h : binV .or (.int .u32 x.toNat) (.int .u32 y.toNat) = some (.int .u32 (IntKind.u32.wrap (BitVec.ofInt 32 (x.toNat : Int) ||| BitVec.ofInt 32 (y.toNat : Int)).toNat)) := rfl
  rw [h, ofInt_u32, ofInt_u32, wrap_u32_nat _ (BitVec.isLt _)]; rfl
theorem xor_u32 : binV .xor (.int .u32 x.toNat) (.int .u32 y.toNat) = some (.int .u32 (x ^^^ y).toNat) := by
  have h : binV .xor (.int .u32 x.toNat) (.int .u32 y.toNat) = some (.int .u32 (IntKind.u32.wrap (BitVec.ofInt 32 (x.toNat : Int) ^^^ BitVec.ofInt 32 (y.toNat : Int)).toNat)) := rfl
  rw [h, ofInt_u32, ofInt_u32, wrap_u32_nat _ (BitVec.isLt _)]; rfl
theorem com_u32 : unV .xor (.int .u32 x.toNat) = some (.int .u32 (~~~x).toNat) := by
  have h : unV .xor (.int .u32 x.toNat) = some (.int .u32 (IntKind.u32.wrap (BitVec.ofInt 32 4294967295 ^^^ BitVec.ofInt 32 (x.toNat : Int)).toNat)) := rfl
  rw [h, ofInt_u32, wrap_u32_nat _ (BitVec.isLt _)]
  have : (BitVec.ofInt 32 4294967295 ^^^ x.toBitVec) = ~~~x.toBitVec := by rw [BitVec.not_def]; rfl
  rw [this]; rfl
theorem shl_u32 (k : IntKind) (n : Int) (h : 0 ≤ n) (h2 : n < 32) : binV .shl (.int .u32 x.toNat) (.int k n) = some (.int .u32 (x <<< UInt32.ofNat n.toNat).toNat) := by
  obtain ⟨m, rfl⟩ : ∃ m : Nat, n = m := ⟨n.toNat, by omega⟩
  have hm : m < 32 := by omega
  have e : min m IntKind.u32.bits = m := by simp [IntKind.bits]; omega
  simp only [binV, isShift, if_true, shiftInt, if_neg (show ¬ (m : Int) < 0 by omega), Int.toNat_natCast, e, wrap_u32_mod, UInt32.toNat_shiftLeft, UInt32.toNat_ofNat', Nat.shiftLeft_eq]
  have e2 : m % 2 ^ 32 % 32 = m := by omega
  rw [e2]; simp
theorem shr_u32 (k : IntKind) (n : Int) (h : 0 ≤ n) (h2 : n < 32) : binV .shr (.int .u32 x.toNat) (.int k n) = some (.int .u32 (x >>> UInt32.ofNat n.toNat).toNat) := by
  obtain ⟨m, rfl⟩ : ∃ m : Nat, n = m := ⟨n.toNat, by omega⟩
  have hm : m < 32 := by omega
  have e : min m IntKind.u32.bits = m := by simp [IntKind.bits]; omega
  simp only [binV, isShift, if_true, shiftInt, if_neg (show ¬ (m : Int) < 0 by omega), Int.toNat_natCast, e, UInt32.toNat_shiftRight, UInt32.toNat_ofNat', Nat.shiftRight_eq_div_pow]
  have e2 : m % 2 ^ 32 % 32 = m := by omega
  have hp : (2 : Int) ^ m = ((2 ^ m : Nat) : Int) := by simp
  rw [e2, hp, Int.fdiv_eq_ediv_of_nonneg _ (Int.natCast_nonneg _), ← Int.natCast_ediv]
end
end Go.Av
namespace Go.Av
open Go
def allLen (k : Nat) (xs : List AV) : Prop := ∀ e ∈ xs, e.cells.length = k
theorem allLen_nil {k : Nat} : allLen k [] = True := by simp [allLen]
theorem allLen_cons {k : Nat} {a : AV} {r : List AV} : allLen k (a :: r) = (a.cells.length = k ∧ allLen k r) := by simp [allLen]
theorem allLen_append {k : Nat} {a r : List AV} : allLen k (a ++ r) = (allLen k a ∧ allLen k r) := by
  apply propext; simp only [allLen, List.mem_append]; constructor
  · exact fun h => ⟨fun e he => h e (.inl he), fun e he => h e (.inr he)⟩
  · rintro ⟨h1, h2⟩ e (he | he); exact h1 e he; exact h2 e he
theorem allLen_bytes {bs : List UInt8} : allLen 1 (bs.map byteAV) = True := by
  simp [allLen, byteAV, AV.cells]
theorem allLen_map {α : Type} {k : Nat} {g : α → AV} (h : ∀ x, (g x).cells.length = k) (l : List α) : allLen k (l.map g) = True := by
  simp [allLen, h]
def Owned (s0 s : Hp) (k : Nat) (xs : List AV) (o : Own) : Prop :=
  s0.sub s ∧ match o with
    | .buf g c => s0 g = none ∧ s g = some (.buf k xs.length c)
    | .any => False
    | _ => xs = []
variable {P : Ctx} {f : Fr} {s s0 : Hp} {Kv : AV → Hp → Prop}
theorem Hp.sub_trans {a b c : Hp} (h : a.sub b) (h2 : b.sub c) : a.sub c := fun l o hl => h2 l o (h l o hl)
theorem Hp.sub_none {a b : Hp} (h : a.sub b) {l : Nat} (hl : b l = none) : a l = none := by
  cases ha : a l with
  | none => rfl
  | some o => rw [h l o ha] at hl; cases hl
theorem Owned.nil (h : s0.sub s) {k : Nat} : Owned s0 s k [] .nil := ⟨h, rfl⟩
theorem Owned.zero (h : s0.sub s) {k : Nat} : Owned s0 s k [] .zero := ⟨h, rfl⟩
theorem Owned.sub {k : Nat} {xs : List AV} {o : Own} (h : Owned s0 s k xs o) : s0.sub s := h.1
theorem Owned.base {s1 : Hp} {k : Nat} {xs : List AV} {o : Own} (h : Owned s0 s k xs o) (hs : s1.sub s0) : Owned s1 s k xs o := by
  refine ⟨Hp.sub_trans hs h.1, ?_⟩
  have h2 := h.2
  cases o with
  | buf g c => exact ⟨Hp.sub_none hs h2.1, h2.2⟩
  | _ => exact h2
theorem Owned.mono {s' : Hp} {k : Nat} {xs : List AV} {o : Own} (h : Owned s0 s k xs o) (hs : s.sub s') : Owned s0 s' k xs o := by
  refine ⟨Hp.sub_trans h.1 hs, ?_⟩
  have h2 := h.2
  cases o with
  | buf g c => exact ⟨h2.1, hs _ _ h2.2⟩
  | _ => exact h2
theorem Owned.set {k l : Nat} {xs : List AV} {o : Own} {ob ob' : Ob} (h : Owned s0 s k xs o) (hl : s0 l = some ob') : Owned (s0.set l ob) (s.set l ob) k xs o := by
  refine ⟨Hp.sub_set h.1, ?_⟩
  have h2 := h.2
  cases o with
  | buf g c =>
    have hne : g ≠ l := by rintro rfl; rw [h2.1] at hl; cases hl
    exact ⟨by rw [Hp.set_ne _ _ hne]; exact h2.1, by rw [Hp.set_ne _ _ hne]; exact h2.2⟩
  | _ => exact h2
theorem Owned.new {k l : Nat} {xs : List AV} {o : Own} {ob : Ob} (h : Owned s0 s k xs o) (hl : s l = none) : Owned (s0.set l ob) (s.set l ob) k xs o := by
  refine ⟨Hp.sub_set h.1, ?_⟩
  have h2 := h.2
  cases o with
  | buf g c =>
    have hne : g ≠ l := by rintro rfl; rw [h2.2] at hl; cases hl
    exact ⟨by rw [Hp.set_ne _ _ hne]; exact h2.1, by rw [Hp.set_ne _ _ hne]; exact h2.2⟩
  | _ => exact h2
def appK (k bytes : Nat) (s : Hp) (x y : AV) (C : AV → Hp → Prop) : Prop :=
  match x, y with
  | .sl xs o, .sl ys _ => (∀ e ∈ xs, e.cells.length = k) ∧ (∀ e ∈ ys, e.cells.length = k) ∧ (xs.length + ys.length) * bytes ≤ 140737488355328 ∧ xs.length + ys.length ≤ 9223372036854775807 ∧
      match o with
      | .buf g c => s g = some (.buf k xs.length c) ∧ ∀ g' c', (g' = g ∨ s g' = none) → C (.sl (xs ++ ys) (.buf g' c')) ((s.del g).set g' (.buf k (xs.length + ys.length) c'))
      | .any => False
      | _ => xs = [] ∧ (if ys = [] then C (.sl [] o) s else ∀ g' c', s g' = none → C (.sl ys (.buf g' c')) (s.set g' (.buf k ys.length c')))
  | _, _ => False
theorem G_app {k bytes : Nat} {x y : Operand} : G P (.app k bytes x y) f s Kv = appK k bytes s (ev f x) (ev f y) (hid2 Kv ()) := rfl
theorem app_own {k bytes : Nat} {xs ys : List AV} {o o2 : Own} {C : AV → Hp → Prop} {d : Dep C} (h : Owned s0 s k xs o) (h1 : allLen k xs) (h2 : allLen k ys) (h3 : (xs.length + ys.length) * bytes ≤ 140737488355328) (h4 : xs.length + ys.length ≤ 9223372036854775807)
    (hk : ∀ o' s', Owned s0 s' k (xs ++ ys) o' → C (.sl (xs ++ ys) o') s') : appK k bytes s (.sl xs o) (.sl ys o2) (hid2 C d) := by
  have ho := h.2
  refine ⟨h1, h2, h3, h4, ?_⟩
  cases o with
  | any => exact ho.elim
  | nil =>
    obtain rfl : xs = [] := ho
    refine ⟨rfl, ?_⟩
    split
    · rename_i hy; subst hy; exact hk _ _ ⟨h.1, rfl⟩
    · intro g' c' hg'
      refine hk _ _ ⟨Hp.sub_new h.1 (Hp.sub_none h.1 hg'), Hp.sub_none h.1 hg', ?_⟩
      rw [Hp.set_same]; simp
  | zero =>
    obtain rfl : xs = [] := ho
    refine ⟨rfl, ?_⟩
    split
    · rename_i hy; subst hy; exact hk _ _ ⟨h.1, rfl⟩
    · intro g' c' hg'
      refine hk _ _ ⟨Hp.sub_new h.1 (Hp.sub_none h.1 hg'), Hp.sub_none h.1 hg', ?_⟩
      rw [Hp.set_same]; simp
  | buf g c =>
    refine ⟨ho.2, fun g' c' hg' => hk _ _ ?_⟩
    have hb : s0 g' = none := by rcases hg' with rfl | hg'; exact ho.1; exact Hp.sub_none h.1 hg'
    refine ⟨Hp.sub_new (fun l ob hl => ?_) hb, hb, ?_⟩
    · have hne : l ≠ g := by rintro rfl; rw [ho.1] at hl; cases hl
      rw [Hp.del_ne _ hne]; exact h.1 l ob hl
    · rw [Hp.set_same, List.length_append]
def bslK (k : Nat) (s : Hp) (vs0 : List AV) (C : AV → Hp → Prop) : Prop :=
  (∀ e ∈ vs0, e.cells.length = k) ∧ (if vs0.length = 0 then C (.sl [] .zero) s else ∀ g, s g = none → C (.sl vs0 (.buf g vs0.length)) (s.set g (.buf k vs0.length vs0.length)))
theorem G_bsl {k : Nat} {xs : List Operand} : G P (.bsl k xs) f s Kv = bslK k s (xs.map (ev f)) (hid2 Kv ()) := by
  simp only [G, bslK, hid2, List.length_map]
theorem bsl_own {k : Nat} {vs0 : List AV} {C : AV → Hp → Prop} {d : Dep C} (h : s0.sub s) (h1 : allLen k vs0) (hk : ∀ o' s', Owned s0 s' k vs0 o' → C (.sl vs0 o') s') : bslK k s vs0 (hid2 C d) := by
  refine ⟨h1, ?_⟩
  split
  · rename_i h0
    obtain rfl := List.eq_nil_of_length_eq_zero h0
    exact hk _ _ ⟨h, rfl⟩
  · intro g hg
    exact hk _ _ ⟨Hp.sub_new h (Hp.sub_none h hg), Hp.sub_none h hg, by rw [Hp.set_same]⟩
def bO (x : Option AV) (d : Nat) : Option Int :=
  match x with
  | none => some d
  | some a => intOf a
def kp (o : Own) (lo hi : Option AV) : Own :=
  match lo, hi with
  | none, none => o
  | _, _ => .any
def slcAA (k : Nat) (a : AV) (lo hi : Option AV) : Option AV :=
  match a with
  | .sl xs o => match bO lo 0, bO hi xs.length with
    | some a, some b => if 0 ≤ a ∧ a ≤ b ∧ b ≤ xs.length ∧ xs.all (fun e => decide (e.cells.length = k)) then some (.sl ((xs.take b.toNat).drop a.toNat) (kp o lo hi)) else none
    | _, _ => none
  | .msl l off len k' => match bO lo 0, bO hi len with
    | some a, some b => if k' = k ∧ 0 ≤ a ∧ a ≤ b ∧ b ≤ len ∧ a < len then some (.msl l (off + a.toNat * k) (b.toNat - a.toNat) k) else none
    | _, _ => none
  | .mb l len cap k' => match bO lo 0, bO hi len with
    | some a, some b => if k' = k ∧ 0 ≤ a ∧ a ≤ b ∧ b ≤ len ∧ (lo.isSome = true → a < len) then some (mbCut lo.isSome l a.toNat b.toNat cap k) else none
    | _, _ => none
  | _ => none
theorem bnd_bO (x : Option Operand) (d : Nat) : bnd f x d = bO (x.map (ev f)) d := by
  cases x with
  | none => rfl
  | some x => simp only [bnd, bO, Option.map_some, intOf]; split <;> simp_all
theorem kp_map {o : Own} (lo hi : Option Operand) : SlKeep o lo hi = kp o (lo.map (ev f)) (hi.map (ev f)) := by cases lo <;> cases hi <;> rfl
theorem G_slcA {k : Nat} {x : Operand} {lo hi : Option Operand} : G P (.slc k x lo hi) f s Kv = valK (slcAA k (ev f x) (lo.map (ev f)) (hi.map (ev f))) (hid1 (fun r => Kv r s) ()) := by
  have e : lo.isSome = (lo.map (ev f)).isSome := by cases lo <;> rfl
  simp only [G, slcAA, bnd_bO, kp_map (f := f) lo hi, e]
  generalize ev f x = a; generalize lo.map (ev f) = p; generalize hi.map (ev f) = q
  cases a <;> try rfl
  · rename_i xs o
    simp only []
    generalize bO p 0 = u; generalize bO q xs.length = w
    cases u <;> cases w <;> try rfl
    simp only [valK_ite, hid1_eq, List.all_eq_true, decide_eq_true_eq]
    apply propext; constructor
    · rintro ⟨h1, h2, h3, h4, h5⟩; exact ⟨⟨h1, h2, h3, h4⟩, h5⟩
    · rintro ⟨⟨h1, h2, h3, h4⟩, h5⟩; exact ⟨h1, h2, h3, h4, h5⟩
  · rename_i l off len k'
    simp only []
    generalize bO p 0 = u; generalize bO q len = w
    cases u <;> cases w <;> try rfl
    simp only [valK_ite, hid1_eq]
    apply propext; constructor
    · rintro ⟨h0, h1, h2, h3, h4, h5⟩; exact ⟨⟨h0, h1, h2, h3, h4⟩, h5⟩
    · rintro ⟨⟨h0, h1, h2, h3, h4⟩, h5⟩; exact ⟨h0, h1, h2, h3, h4, h5⟩
  · rename_i l len cap k'
    simp only []
    generalize bO p 0 = u; generalize bO q len = w
    cases u <;> cases w <;> try rfl
    simp only [valK_ite, hid1_eq]
    apply propext; constructor
    · rintro ⟨h0, h1, h2, h3, h4, h5⟩; exact ⟨⟨h0, h1, h2, h3, h4⟩, h5⟩
    · rintro ⟨⟨h0, h1, h2, h3, h4⟩, h5⟩; exact ⟨h0, h1, h2, h3, h4, h5⟩
theorem slcAA_mb {k l len cap : Nat} {kd : IntKind} {b : Int} (h : 0 ≤ b) (h2 : b ≤ len) : slcAA k (.mb l len cap k) none (some (.v (.int kd b))) = some (.mb l b.toNat cap k) := by
  simp [slcAA, bO, intOf, h, h2, mbCut]
theorem slcAA_all {k : Nat} {xs : List AV} {o : Own} (h : allLen k xs) : slcAA k (.sl xs o) none none = some (.sl xs o) := by
  have : (xs.all fun e => decide (e.cells.length = k)) = true := by simpa [allLen] using h
  simp [slcAA, bO, kp, this]
theorem slcAA_lo {k : Nat} {xs : List AV} {o : Own} {kd : IntKind} {a : Int} (h : 0 ≤ a) (h2 : a ≤ xs.length) (h3 : allLen k xs) : slcAA k (.sl xs o) (some (.v (.int kd a))) none = some (.sl (xs.drop a.toNat) .any) := by
  have : (xs.all fun e => decide (e.cells.length = k)) = true := by simpa [allLen] using h3
  simp [slcAA, bO, kp, intOf, this, h, h2]
theorem slcAA_hi {k : Nat} {xs : List AV} {o : Own} {kd : IntKind} {b : Int} (h : 0 ≤ b) (h2 : b ≤ xs.length) (h3 : allLen k xs) : slcAA k (.sl xs o) none (some (.v (.int kd b))) = some (.sl (xs.take b.toNat) .any) := by
  have : (xs.all fun e => decide (e.cells.length = k)) = true := by simpa [allLen] using h3
  simp [slcAA, bO, kp, intOf, this, h, h2]
theorem slcAA_both {k : Nat} {xs : List AV} {o : Own} {kd kd' : IntKind} {a b : Int} (h : 0 ≤ a) (h1 : a ≤ b) (h2 : b ≤ xs.length) (h3 : allLen k xs) : slcAA k (.sl xs o) (some (.v (.int kd a))) (some (.v (.int kd' b))) = some (.sl ((xs.take b.toNat).drop a.toNat) .any) := by
  have : (xs.all fun e => decide (e.cells.length = k)) = true := by simpa [allLen] using h3
  simp [slcAA, bO, kp, intOf, this, h, h1, h2]
def eqvK (neg : Bool) (ks : List (Nat × CK)) (a b : AV) (C : AV → Prop) : Prop :=
  match a, b with
  | .agg cs, .agg ds => fitR ks cs ∧ fitR ks ds ∧ C (.v (.bool (xor neg (peq (.agg cs) (.agg ds)))))
  | _, _ => False
theorem G_eqvK {neg : Bool} {ks : List (Nat × CK)} {x y : Operand} : G P (.eqv neg ks x y) f s Kv = eqvK neg ks (ev f x) (ev f y) (hid1 (fun r => Kv r s) ()) := rfl
theorem eqvK_agg {neg : Bool} {ks : List (Nat × CK)} {cs ds : List AV} {C : AV → Prop} : eqvK neg ks (.agg cs) (.agg ds) C = andK (fitR ks cs ∧ fitR ks ds) (hidP (C (.v (.bool (xor neg (peq (.agg cs) (.agg ds)))))) ()) := by
  simp only [eqvK, andK, hidP]; exact propext and_assoc.symm
theorem mapb_drop {bs : List UInt8} {n : Nat} : (bs.map byteAV).drop n = (bs.drop n).map byteAV := by rw [List.map_drop]
theorem mapb_take {bs : List UInt8} {n : Nat} : (bs.map byteAV).take n = (bs.take n).map byteAV := by rw [List.map_take]
theorem mapb_app {bs cs : List UInt8} : bs.map byteAV ++ cs.map byteAV = (bs ++ cs).map byteAV := by rw [List.map_append]
theorem app_bytes {xs ys : List UInt8} {o o2 : Own} {C : AV → Hp → Prop} {d : Dep C} (h : Owned s0 s 1 (xs.map byteAV) o) (h3 : xs.length + ys.length ≤ 140737488355328)
    (hk : ∀ o' s', Owned s0 s' 1 ((xs ++ ys).map byteAV) o' → C (.sl ((xs ++ ys).map byteAV) o') s') : appK 1 1 s (.sl (xs.map byteAV) o) (.sl (ys.map byteAV) o2) (hid2 C d) := by
  refine app_own h (by rw [allLen_bytes]; trivial) (by rw [allLen_bytes]; trivial) (by simp; omega) (by simp; omega) ?_
  rw [mapb_app]; exact hk
theorem bsl_byte {b : UInt8} {C : AV → Hp → Prop} {d : Dep C} (h : s0.sub s) (hk : ∀ o' s', Owned s0 s' 1 [byteAV b] o' → C (.sl [byteAV b] o') s') : bslK 1 s [.v (.int .u8 b.toNat)] (hid2 C d) :=
  bsl_own (vs0 := [b].map byteAV) h (by rw [allLen_bytes]; trivial) hk
theorem runL_mono {Kf Kf' : Fr → Hp → Prop} (h : ∀ f s, Kf f s → Kf' f s) : ∀ (ops : List AOper) (f : Fr) (s : Hp), runL P ops Kf f s → runL P ops Kf' f s
  | [], f, s, hh => h f s hh
  | _ :: r, f, s, hh => T_mono (fun f s hh => runL_mono h r f s hh) hh
theorem can_mono {xs : Nat → AOper} {Kf Kf' : Fr → Hp → Prop} (h : ∀ f s, Kf f s → Kf' f s) : ∀ (l : List CO) (f : Fr) (s : Hp), can P xs Kf l f s → can P xs Kf' l f s
  | [], f, s, hh => h f s hh
  | _ :: r, f, s, hh => ⟨hh.1, T_mono (fun f s hh => ⟨hh.1, can_mono h r f s hh.2⟩) hh.2⟩
theorem awp_mono : ∀ (c : ACode) {K K' : Ex → Fr → Hp → Prop} (_ : ∀ e f s, K e f s → K' e f s) (f : Fr) (s : Hp), awp P c K f s → awp P c K' f s
  | .skip, _, _, h, f, s, hh => h _ f s hh
  | .ret, _, _, h, f, s, hh => h _ f s hh
  | .exit _, _, _, h, f, s, hh => h _ f s hh
  | .plain ops, _, _, h, f, s, hh => runL_mono (h _) ops f s hh
  | .draw _ l, _, _, h, f, s, hh => can_mono (h _) l f s hh
  | .seq a b, K, K', h, f, s, hh => awp_mono a (fun e f s hh => by
      cases e with
      | norm => exact awp_mono b h f s hh
      | exit i => exact h _ f s hh
      | ret => exact h _ f s hh) f s hh
  | .block i a, K, K', h, f, s, hh => awp_mono a (fun e f s hh => by
      cases e with
      | norm => exact h _ f s hh
      | exit j => simp only [blockK] at hh ⊢; split <;> (rename_i hj; simp only [hj, if_true, if_false] at hh; exact h _ f s hh)
      | ret => exact h _ f s hh) f s hh
  | .cond c a b, K, K', h, f, s, hh => by
      simp only [awp_cond, hidP_eq, condK] at hh ⊢
      split at hh
      · exact ⟨fun ht => awp_mono a h f s (hh.1 ht), fun ht => awp_mono b h f s (hh.2 ht)⟩
      · exact hh.elim
  | .loop a, K, K', h, f, s, hh => by
      obtain ⟨I, m, h0, hr⟩ := hh
      exact ⟨I, m, h0, fun f s hI => awp_mono a (fun e f s hh => by
        cases e with
        | norm => exact hh
        | exit i => exact h _ f s hh
        | ret => exact h _ f s hh) f s (hr f s hI)⟩
theorem cond_join {K : Ex → Fr → Hp → Prop} {a b c : ACode} {t : Bool} {d : Dep (awp P a (seqK (awp P c K) K) f s)} {d' : Dep (awp P b (seqK (awp P c K) K) f s)} (Q : Fr → Hp → Prop)
    (ht : t = true → awp P a (seqK Q K) f s) (hf : t = false → awp P b (seqK Q K) f s) (hQ : ∀ f s, Q f s → awp P c K f s) :
    condK (.v (.bool t)) (hidP (awp P a (seqK (awp P c K) K) f s) d) (hidP (awp P b (seqK (awp P c K) K) f s) d') := by
  have hm : ∀ e f s, seqK Q K e f s → seqK (awp P c K) K e f s := fun e f s h => by
    cases e with
    | norm => exact hQ f s h
    | exit i => exact h
    | ret => exact h
  exact ⟨fun h => awp_mono a hm f s (ht h), fun h => awp_mono b hm f s (hf h)⟩
def idxSA (a i : AV) : Option AV :=
  match a, i with
  | .v (.string t), .v (.int _ n) => if 0 ≤ n then (match t.data[n.toNat]? with | some b => some (.v (.int .u8 b.toNat)) | none => none) else none
  | _, _ => none
theorem G_idxS {x i : Operand} : G P (.idxS x i) f s Kv = valK (idxSA (ev f x) (ev f i)) (hid1 (fun r => Kv r s) ()) := by
  simp only [G, idxSA]; generalize ev f x = a; generalize ev f i = b
  cases a <;> first
    | rfl
    | (rename_i v; cases v <;> first
        | rfl
        | (cases b <;> first
            | rfl
            | (rename_i t w; cases w <;> first
                | rfl
                | (rename_i kd n; simp only []; by_cases h : 0 ≤ n
                   · simp only [h, true_and, if_true]; generalize t.data[n.toNat]? = c; cases c <;> rfl
                   · simp [h, valK]))))
def slcRA (k n : Nat) (s : Hp) (a : AV) : Option AV :=
  match a with
  | .ptr l off => match s l with
    | some (.ro cs) => if off + n * k ≤ cs.length then some (.sl (elemsOf k n (cs.drop off)) .any) else none
    | _ => none
  | _ => none
theorem G_slcR {k n : Nat} {x : Operand} : G P (.slcR k n x none none) f s Kv = valK (slcRA k n s (ev f x)) (hid1 (fun r => Kv r s) ()) := by
  simp only [G, slcRA, bnd]; generalize ev f x = a
  cases a <;> first
    | rfl
    | (rename_i l off; simp only []
       generalize s l = c
       cases c with
       | none => simp [valK]
       | some o => cases o with
         | ro cs => simp only [valK_ite, hid1_eq]; simp
         | _ => simp [valK])
def tup2 (a b : Option AV) : Option AV :=
  match a, b with
  | some a, some b => some (.tup [a, b])
  | _, _ => none
theorem tup2_some {a b : AV} : tup2 (some a) (some b) = some (.tup [a, b]) := rfl
theorem resAll2 {p q : Nat × Option (Bool × Nat)} : resAll f s [p, q] = tup2 (resG f s p) (resG f s q) := by
  simp only [resAll, mapAll]; cases resG f s p <;> cases resG f s q <;> rfl
def tup3 (a b c : Option AV) : Option AV :=
  match a, b, c with
  | some a, some b, some c => some (.tup [a, b, c])
  | _, _, _ => none
theorem tup3_some {a b c : AV} : tup3 (some a) (some b) (some c) = some (.tup [a, b, c]) := rfl
theorem resAll3 {p q r : Nat × Option (Bool × Nat)} : resAll f s [p, q, r] = tup3 (resG f s p) (resG f s q) (resG f s r) := by
  simp only [resAll, mapAll]; cases resG f s p <;> cases resG f s q <;> cases resG f s r <;> rfl
theorem cast0 : ((0 : Nat) : Int) = 0 := rfl
theorem cast1 : ((1 : Nat) : Int) = 1 := rfl
def rD :=
  And.intro @awp_skip <|
  And.intro @awp_ret <|
  And.intro @awp_exit <|
  And.intro @awp_seq <|
  And.intro @awp_block <|
  And.intro @awp_plain <|
  And.intro @awp_draw <|
  And.intro @awp_cond <|
  And.intro @awp_loopK <|
  And.intro @hid1_eq <|
  And.intro @hid2_eq <|
  And.intro @seqK_norm <|
  And.intro @seqK_ret <|
  And.intro @seqK_exit <|
  And.intro @blockK_norm <|
  And.intro @blockK_ret <|
  And.intro @blockK_same <|
  And.intro @blockK_exit <|
  And.intro @runL_nil <|
  And.intro @runL_cons <|
  And.intro @runL_guard <|
  And.intro @can_nil <|
  And.intro @can_cons <|
  And.intro @can_pre <|
  And.intro @can_chk <|
  And.intro @chkL_nil <|
  And.intro @chkL_cons <|
  And.intro @Def_none <|
  And.intro @chkT_none <|
  And.intro @T_none <|
  And.intro @T_guard <|
  And.intro @nth_zero <|
  And.intro @nth_succ <|
  And.intro @G_mv <|
  And.intro @G_pick <|
  And.intro @G_alloc <|
  And.intro @G_box <|
  And.intro @G_boxR <|
  And.intro @G_load <|
  And.intro @G_store <|
  And.intro @G_nilc <|
  And.intro @G_fa <|
  And.intro @G_iaA <|
  And.intro @G_iaS <|
  And.intro @G_fld <|
  And.intro @G_idxA <|
  And.intro @G_bld <|
  And.intro @G_len <|
  And.intro @G_lenA <|
  And.intro @G_bin <|
  And.intro @G_un <|
  And.intro @G_cvt <|
  And.intro @G_callF <|
  And.intro @G_ext <|
  And.intro @G_app <|
  And.intro @G_bsl <|
  And.intro @G_slcA <|
  And.intro @G_idxS <|
  And.intro @G_slcR <|
  And.intro @G_eqvK <|
  And.intro @G_eqb <|
  And.intro @G_eqp <|
  And.intro @putF_get <|
  And.intro @putF_none <|
  And.intro @initF_get <|
  And.intro @bldK_nil <|
  And.intro @bldK_cons <|
  And.intro @postR_ret <|
  @postR_norm
def rU :=
  And.intro @condK_true <|
  And.intro @condK_false <|
  And.intro @guardK_tt <|
  And.intro @guardK_ff <|
  And.intro @guardK_tf <|
  And.intro @guardK_ft <|
  And.intro @guardK_no <|
  And.intro @newK_true <|
  And.intro @eq_self.{1} <|
  And.intro @tK_eq <|
  And.intro @List.getD_cons_zero.{0} <|
  And.intro @List.getD_cons_succ.{0} <|
  And.intro @eqvK_agg <|
  And.intro @Option.map_none.{0,0} <|
  And.intro @slcAA_all <|
  And.intro @slcAA_lo <|
  And.intro @slcAA_hi <|
  And.intro @slcAA_both <|
  And.intro @mapb_drop <|
  And.intro @mapb_take <|
  And.intro @valK_some <|
  And.intro @letK_eq <|
  And.intro @cellK_some <|
  And.intro @andK_true <|
  And.intro @andK_ok <|
  And.intro @pickA_true <|
  And.intro @pickA_false <|
  And.intro @loadA_ptr <|
  And.intro @loadA_rptr <|
  And.intro @rdA_some <|
  And.intro @storeK_ptr <|
  And.intro @nilcA_ptr <|
  And.intro @nilcA_rptr <|
  And.intro @faA_ptr <|
  And.intro @faA_rptr <|
  And.intro @iaAA_ptr <|
  And.intro @iaAA_rptr <|
  And.intro @iaSA_bytes <|
  And.intro @iaSA_msl <|
  And.intro @elA_some <|
  And.intro @fldA_agg <|
  And.intro @idxAA_agg <|
  And.intro @lenAA_sl <|
  And.intro @lenAA_msl <|
  And.intro @binA_v <|
  And.intro @unA_v <|
  And.intro @cvtA_int <|
  And.intro @extA_tup <|
  And.intro @eqbA_b <|
  And.intro @eqpA_ptr <|
  And.intro @eqpA_rptr <|
  And.intro @eqpA_nil <|
  And.intro @Option.map_some.{0,0} <|
  And.intro @resAll_one <|
  And.intro @resG_tmp <|
  And.intro @resAll_none <|
  And.intro @resG_ptr <|
  And.intro @resP_ptr <|
  And.intro @putAt_all <|
  And.intro @List.map_cons.{0,0} <|
  And.intro @List.map_nil.{0,0} <|
  And.intro @add_i64 <|
  And.intro @sub_i64 <|
  And.intro @mul_i64 <|
  And.intro @quo_i64 <|
  And.intro @rem_i64 <|
  And.intro @eql_int <|
  And.intro @neq_int <|
  And.intro @lss_int <|
  And.intro @leq_int <|
  And.intro @gtr_int <|
  And.intro @geq_int <|
  And.intro @not_bool <|
  And.intro @add_u32 <|
  And.intro @sub_u32 <|
  And.intro @mul_u32 <|
  And.intro @and_u32 <|
  And.intro @or_u32 <|
  And.intro @xor_u32 <|
  And.intro @com_u32 <|
  And.intro @shl_u32 <|
  And.intro @shr_u32 <|
  And.intro @wrap_i64 <|
  And.intro @wrap_u32_8 <|
  And.intro @wrap_u64_8 <|
  And.intro @wrap_u8_32 <|
  And.intro @wrap_u8_64 <|
  And.intro @add_u64 <|
  And.intro @sub_u64 <|
  And.intro @mul_u64 <|
  And.intro @shr_u64 <|
  And.intro @wrap_u64 <|
  And.intro @mkv_one <|
  And.intro @mkv_agg <|
  And.intro @List.length_map.{0,0} <|
  And.intro @List.length_cons.{0} <|
  And.intro @List.length_nil.{0} <|
  And.intro @Hp.read_set_same <|
  And.intro @Hp.read_set_ro <|
  And.intro @Hp.read_set_ne <|
  And.intro @Hp.stA_set_same <|
  And.intro @Hp.stA_set_ne <|
  And.intro @Hp.set_set <|
  And.intro @Hp.set_in1 <|
  And.intro @Hp.set_in2 <|
  And.intro @Hp.set_in3 <|
  And.intro @Hp.set_in4 <|
  And.intro @Hp.set_in5 <|
  And.intro @Hp.set_in6 <|
  And.intro @Hp.set_in7 <|
  And.intro @Hp.set_in8 <|
  And.intro @cells_sl <|
  And.intro @cells_v <|
  And.intro @cells_ptr <|
  And.intro @cells_rptr <|
  And.intro @cells_iface <|
  And.intro @cells_agg <|
  And.intro @List.drop_zero.{0} <|
  And.intro @and_self <|
  And.intro @Nat.zero_add <|
  And.intro @Nat.mul_one <|
  And.intro @Nat.one_mul <|
  And.intro @Int.toNat_natCast <|
  And.intro @true_and <|
  And.intro @and_true <|
  And.intro @Nat.add_zero <|
  And.intro @Nat.le_refl <|
  And.intro @dec_t <|
  @dec_f
def rX :=
  And.intro @cast0 <|
  And.intro @cast1 <|
  And.intro @resAll2 <|
  And.intro @tup2_some <|
  And.intro @resAll3 <|
  @tup3_some
def rL :=
  And.intro @List.length_cons.{0} <|
  And.intro @List.length_nil.{0} <|
  And.intro @List.length_map.{0,0} <|
  And.intro @List.length_append.{0} <|
  And.intro @List.length_replicate.{0} <|
  And.intro @List.length_range <|
  And.intro @List.length_take.{0} <|
  And.intro @List.length_drop.{0} <|
  And.intro @cells_sl <|
  And.intro @cells_v <|
  And.intro @cells_ptr <|
  And.intro @cells_rptr <|
  And.intro @cells_iface <|
  And.intro @cells_agg <|
  And.intro @allLen_bytes <|
  And.intro @allLen_nil <|
  And.intro @allLen_cons <|
  And.intro @allLen_append <|
  And.intro @and_true <|
  And.intro @true_and <|
  And.intro @Nat.zero_add <|
  And.intro @eq_self.{1} <|
  @and_self
end Go.Av
namespace Go.Av
open Go
def strV (bs : List UInt8) : AV := .v (.string ⟨bs.toArray⟩)
theorem toList_loop (b : ByteArray) : ∀ (n i : Nat) (r : List UInt8), b.size - i = n → ByteArray.toList.loop b i r = r.reverse ++ b.data.toList.drop i
  | 0, i, r, h => by
    rw [ByteArray.toList.loop, if_neg (by omega), List.drop_of_length_le (by simp; exact Nat.le_of_sub_eq_zero h)]; simp
  | n + 1, i, r, h => by
    have hi : i < b.size := by omega
    have hi' : i < b.data.toList.length := by simpa using hi
    rw [ByteArray.toList.loop, if_pos hi, toList_loop b n (i + 1) _ (by omega), List.drop_eq_getElem_cons hi']
    have : b.get! i = b.data.toList[i] := by
      rw [ByteArray.get!]
      simp [hi]
    rw [this]; simp
theorem toList_data (b : ByteArray) : b.toList = b.data.toList := by
  rw [ByteArray.toList, toList_loop b _ 0 [] rfl]; simp
theorem toList_mk (bs : List UInt8) : (⟨bs.toArray⟩ : ByteArray).toList = bs := by rw [toList_data]
theorem eql_str (a b : List UInt8) : binV .eql (.string ⟨a.toArray⟩) (.string ⟨b.toArray⟩) = some (.bool (decide (a = b))) := by
  simp only [binV, binStr, toList_mk]; congr 2
  by_cases h : a = b <;> simp [h]
theorem neq_str (a b : List UInt8) : binV .neq (.string ⟨a.toArray⟩) (.string ⟨b.toArray⟩) = some (.bool (decide (a ≠ b))) := by
  simp only [binV, binStr, toList_mk]; congr 2
  by_cases h : a = b <;> simp [h]
theorem size_str (a : List UInt8) : (⟨a.toArray⟩ : ByteArray).size = a.length := by simp [ByteArray.size]
theorem append_str (a b : List UInt8) : ((⟨a.toArray⟩ : ByteArray) ++ ⟨b.toArray⟩) = ⟨(a ++ b).toArray⟩ := by
  apply ByteArray.ext; simp
theorem add_str (a b : List UInt8) (h : a.length + b.length ≤ 9223372036854775807) : binV .add (.string ⟨a.toArray⟩) (.string ⟨b.toArray⟩) = some (.string ⟨(a ++ b).toArray⟩) := by
  simp only [binV, binStr, size_str, if_pos h, append_str]
section
variable {P : Ctx} {f : Fr} {s : Hp} {Kv : AV → Hp → Prop}
theorem chkT_guard {d : Nat} {op : AOp} {g : Nat} {w : Bool} : chkT P ⟨some d, op, some (g, w)⟩ f s = guardK (f g) w (hidP (G P op f s (fun r _ => r = f d)) ()) (hidP ((.tup [] : AV) = f d) ()) := rfl
theorem Def_guard {d : Option Nat} {op : AOp} {g : Nat} {w : Bool} : Def P ⟨d, op, some (g, w)⟩ f = guardK (f g) w (hidP (G P op f Hp.emp (fun _ _ => True)) ()) (hidP True ()) := rfl
def b2sA (a : AV) : Option AV :=
  match a with
  | .sl xs _ => match bytesOf xs with
    | some l => some (.v (.string ⟨l.toArray⟩))
    | none => none
  | _ => none
theorem b2sA_map {bs : List UInt8} {o : Own} : b2sA (.sl (bs.map byteAV) o) = some (.v (.string ⟨bs.toArray⟩)) := by simp [b2sA, bytesOf_map]
theorem G_b2s {x : Operand} : G P (.b2s x) f s Kv = valK (b2sA (ev f x)) (hid1 (fun r => Kv r s) ()) := by
  simp only [G, b2sA]; generalize ev f x = a
  cases a <;> first | rfl | (rename_i xs o; simp only []; generalize bytesOf xs = c; cases c <;> rfl)
def mmA (mx : Bool) (a b : AV) : Option AV :=
  match a, b with
  | .v (.int k a), .v (.int k' b) => if k = k' then some (.v (.int k (if mx then max a b else min a b))) else none
  | _, _ => none
theorem mmA_max {k : IntKind} {a b : Int} : mmA true (.v (.int k a)) (.v (.int k b)) = some (.v (.int k (max a b))) := by simp [mmA]
theorem mmA_min {k : IntKind} {a b : Int} : mmA false (.v (.int k a)) (.v (.int k b)) = some (.v (.int k (min a b))) := by simp [mmA]
theorem G_mm {mx : Bool} {k : IntKind} {x y : Operand} : G P (.mm mx k x y) f s Kv = valK (mmA mx (ev f x) (ev f y)) (hid1 (fun r => Kv r s) ()) := by
  simp only [G, mmA]; generalize ev f x = a; generalize ev f y = b
  cases a <;> first
    | rfl
    | (rename_i v; cases v <;> first
        | rfl
        | (cases b <;> first
            | rfl
            | (rename_i w; cases w <;> first | rfl | (simp only [valK_ite, hid1_eq]))))
def lenTA (a : AV) : Option AV :=
  match a with
  | .v (.string t) => some (.v (.int .i64 t.size))
  | _ => none
theorem lenTA_str {bs : List UInt8} : lenTA (.v (.string ⟨bs.toArray⟩)) = some (.v (.int .i64 bs.length)) := by simp [lenTA, size_str]
theorem G_lenT {x : Operand} : G P (.lenT x) f s Kv = valK (lenTA (ev f x)) (hid1 (fun r => Kv r s) ()) := by
  simp only [G, lenTA]; generalize ev f x = a
  cases a <;> first | rfl | (rename_i v; cases v <;> rfl)
def slcSA (a : AV) (lo hi : Option AV) : Option AV :=
  match a with
  | .v (.string t) => match bO lo 0, bO hi t.size with
    | some a, some b => if 0 ≤ a ∧ a ≤ b ∧ b ≤ t.size then some (.v (.string (t.extract a.toNat b.toNat))) else none
    | _, _ => none
  | _ => none
theorem extract_str (bs : List UInt8) (i j : Nat) : (⟨bs.toArray⟩ : ByteArray).extract i j = ⟨((bs.take j).drop i).toArray⟩ := by
  apply ByteArray.ext
  simp only [ByteArray.data_extract]
  simp [List.drop_take]
theorem slcSA_lo {bs : List UInt8} {k : IntKind} {a : Int} (h : 0 ≤ a) (h2 : a ≤ bs.length) : slcSA (.v (.string ⟨bs.toArray⟩)) (some (.v (.int k a))) none = some (.v (.string ⟨(bs.drop a.toNat).toArray⟩)) := by
  simp [slcSA, bO, intOf, size_str, h, h2, extract_str]
theorem slcSA_hi {bs : List UInt8} {k : IntKind} {b : Int} (h : 0 ≤ b) (h2 : b ≤ bs.length) : slcSA (.v (.string ⟨bs.toArray⟩)) none (some (.v (.int k b))) = some (.v (.string ⟨(bs.take b.toNat).toArray⟩)) := by
  simp [slcSA, bO, intOf, size_str, h, h2, extract_str]
theorem slcSA_both {bs : List UInt8} {k k' : IntKind} {a b : Int} (h : 0 ≤ a) (h1 : a ≤ b) (h2 : b ≤ bs.length) : slcSA (.v (.string ⟨bs.toArray⟩)) (some (.v (.int k a))) (some (.v (.int k' b))) = some (.v (.string ⟨((bs.take b.toNat).drop a.toNat).toArray⟩)) := by
  simp [slcSA, bO, intOf, size_str, h, h1, h2, extract_str]
theorem G_slcS {x : Operand} {lo hi : Option Operand} : G P (.slcS x lo hi) f s Kv = valK (slcSA (ev f x) (lo.map (ev f)) (hi.map (ev f))) (hid1 (fun r => Kv r s) ()) := by
  simp only [G, slcSA, bnd_bO]
  generalize ev f x = a; generalize lo.map (ev f) = p; generalize hi.map (ev f) = q
  cases a <;> try rfl
  rename_i v
  cases v <;> try rfl
  rename_i t
  simp only []
  generalize bO p 0 = u; generalize bO q t.size = w
  cases u <;> cases w <;> try rfl
  simp only [valK_ite, hid1_eq]
  apply propext; constructor
  · rintro ⟨h1, h2, h3, h5⟩; exact ⟨⟨h1, h2, h3⟩, h5⟩
  · rintro ⟨⟨h1, h2, h3⟩, h5⟩; exact ⟨h1, h2, h3, h5⟩
theorem idxSA_str {bs : List UInt8} {k : IntKind} {n : Int} (h : 0 ≤ n) (h2 : n < bs.length) : idxSA (.v (.string ⟨bs.toArray⟩)) (.v (.int k n)) = some (.v (.int .u8 (bs.getD n.toNat 0).toNat)) := by
  have h3 : n.toNat < bs.length := by omega
  have e : bs.getD n.toNat 0 = bs[n.toNat] := by simp [List.getD, h3]
  simp [idxSA, h, h3, e]
def cpyK (k : Nat) (s : Hp) (x y : AV) (C : AV → Hp → Prop) : Prop :=
  match x, y with
  | .msl l off n k', .sl ys _ => k' = k ∧ (∀ e ∈ ys, e.cells.length = k) ∧ match s l with
    | some (.cells cs) => off + n * k ≤ cs.length ∧ C (.v (.int .i64 (min ys.length n))) (s.set l (.cells (putAt cs off (flat (ys.take n)))))
    | _ => False
  | .mb l n _ k', .sl ys _ => k' = k ∧ (∀ e ∈ ys, e.cells.length = k) ∧ match s l with
    | some (.cells cs) => n * k ≤ cs.length ∧ C (.v (.int .i64 (min ys.length n))) (s.set l (.cells (putAt cs 0 (flat (ys.take n)))))
    | _ => False
  | _, _ => False
theorem G_cpy {k : Nat} {x y : Operand} : G P (.cpy k x y) f s Kv = cpyK k s (ev f x) (ev f y) (hid2 Kv ()) := rfl
def slcMA (k n : Nat) (s : Hp) (a : AV) (lo hi : Option AV) : Option AV :=
  match a with
  | .ptr l off => match bO lo 0, bO hi n with
    | some a, some b => match s.read l with
      | some cs => if 0 ≤ a ∧ a ≤ b ∧ b ≤ n ∧ off + n * k ≤ cs.length ∧ a < n then some (.msl l (off + a.toNat * k) (b.toNat - a.toNat) k) else none
      | none => none
    | _, _ => none
  | _ => none
theorem slcMA_all {k n l off : Nat} {cs : List AV} (h : s.read l = some cs) (h2 : off + n * k ≤ cs.length) (h3 : 0 < n) : slcMA k n s (.ptr l off) none none = some (.msl l off n k) := by
  simp [slcMA, bO, h, h2, h3]
theorem G_slcAm {k n : Nat} {x : Operand} {lo hi : Option Operand} : G P (.slcA k n x lo hi false) f s Kv = valK (slcMA k n s (ev f x) (lo.map (ev f)) (hi.map (ev f))) (hid1 (fun r => Kv r s) ()) := by
  simp only [G, slcMA, bnd_bO]; generalize ev f x = a
  generalize lo.map (ev f) = p; generalize hi.map (ev f) = q
  cases a <;> try rfl
  rename_i l off
  simp only []
  generalize bO p 0 = u; generalize bO q n = w; generalize s.read l = c
  cases u <;> cases w <;> cases c <;> first
    | rfl
    | (simp [valK]; done)
    | (simp only [valK_ite, hid1_eq, Bool.false_eq_true, if_false]
       apply propext; constructor
       · rintro ⟨h1, h2, h3, h4, h5, h6⟩; exact ⟨⟨h1, h2, h3, h4, h5⟩, h6⟩
       · rintro ⟨⟨h1, h2, h3, h4, h5⟩, h6⟩; exact ⟨h1, h2, h3, h4, h5, h6⟩)
def bslMK (k : Nat) (s : Hp) (vs0 : List AV) (C : AV → Hp → Prop) : Prop :=
  (∀ e ∈ vs0, e.cells.length = k) ∧ (if vs0.length = 0 then C (.sl [] .zero) s else ∀ g, s g = none → C (.mb g vs0.length vs0.length k) (s.set g (.cells (flat vs0))))
theorem G_bslM {k : Nat} {xs : List Operand} : G P (.bslM k xs) f s Kv = bslMK k s (xs.map (ev f)) (hid2 Kv ()) := by
  simp only [G, bslMK, hid2, List.length_map]
def mksK (k bytes : Nat) (z : List AV) (s : Hp) (x y : AV) (C : AV → Hp → Prop) : Prop :=
  match x, y with
  | .v (.int _ n), .v (.int _ m) => n = m ∧ 0 ≤ n ∧ n ≤ 9223372036854775807 ∧ n * bytes ≤ 281474976710656 ∧ ∀ g, s g = none → C (.mb g n.toNat n.toNat k) (s.set g (.cells (List.replicate n.toNat z).flatten))
  | _, _ => False
theorem G_mks {k bytes : Nat} {z : List AV} {x y : Operand} : G P (.mks k bytes z x y) f s Kv = mksK k bytes z s (ev f x) (ev f y) (hid2 Kv ()) := rfl
def appMK (k bytes : Nat) (s : Hp) (x y : AV) (C : AV → Hp → Prop) : Prop :=
  match srcS s k y with
  | some (m, ys) => match x with
    | .sl xs o => xs = [] ∧ (o = .nil ∨ o = .zero) ∧ m * bytes ≤ 140737488355328 ∧ m ≤ 9223372036854775807 ∧
      (if m = 0 then C (.sl [] o) s else ∀ g cap sp, s g = none → m ≤ cap → cap ≤ maxLen → sp.length = (cap - m) * k → C (.mb g m cap k) (s.set g (.cells (ys ++ sp))))
    | .mb l n cap k' => match s l with
      | some (.cells cs) => k' = k ∧ cs.length = cap * k ∧ (n + m) * bytes ≤ 140737488355328 ∧ n + m ≤ 9223372036854775807 ∧
        (if n + m ≤ cap then C (.mb l (n + m) cap k) (s.set l (.cells (putAt cs (n * k) ys)))
         else ∀ g cap' sp, s g = none → n + m ≤ cap' → cap' ≤ maxLen → sp.length = (cap' - (n + m)) * k → C (.mb g (n + m) cap' k) (s.set g (.cells (cs.take (n * k) ++ ys ++ sp))))
      | some (.sc cs) => k' = k ∧ cs.length = cap * k ∧ (n + m) * bytes ≤ 140737488355328 ∧ n + m ≤ 9223372036854775807 ∧
        (if n + m ≤ cap then C (.mb l (n + m) cap k) (s.set l (.sc (putAt cs (n * k) ys)))
         else ∀ g cap' sp, s g = none → n + m ≤ cap' → cap' ≤ maxLen → sp.length = (cap' - (n + m)) * k → C (.mb g (n + m) cap' k) (s.set g (.cells (cs.take (n * k) ++ ys ++ sp))))
      | _ => False
    | _ => False
  | none => False
theorem G_appM {k bytes : Nat} {x y : Operand} : G P (.appM k bytes x y) f s Kv = appMK k bytes s (ev f x) (ev f y) (hid2 Kv ()) := rfl
def MO (s0 s : Hp) (k : Nat) (us : List AV) (a : AV) : Prop :=
  s0.sub s ∧ ((us = [] ∧ (a = .sl [] .nil ∨ a = .sl [] .zero)) ∨ ∃ l n cap cs, a = .mb l n cap k ∧ s0 l = none ∧ s l = some (.cells cs) ∧ cs.length = cap * k ∧ cs.take (n * k) = us ∧ us.length = n * k ∧ n ≤ cap ∧ cap ≤ maxLen)
theorem MO.nil {s0 s : Hp} {k : Nat} (h : s0.sub s) : MO s0 s k [] (.sl [] .nil) := ⟨h, .inl ⟨rfl, .inl rfl⟩⟩
theorem MO.zero {s0 s : Hp} {k : Nat} (h : s0.sub s) : MO s0 s k [] (.sl [] .zero) := ⟨h, .inl ⟨rfl, .inr rfl⟩⟩
theorem MO.mono {s0 s s' : Hp} {k : Nat} {us : List AV} {a : AV} (h : MO s0 s k us a) (hs : s.sub s') : MO s0 s' k us a := by
  obtain ⟨h1, h2⟩ := h
  refine ⟨Hp.sub_trans h1 hs, ?_⟩
  rcases h2 with h2 | ⟨l, n, cap, cs, q1, q2, q3, q4⟩
  · exact .inl h2
  · exact .inr ⟨l, n, cap, cs, q1, q2, hs _ _ q3, q4⟩
theorem MO.base {s0 s1 s : Hp} {k : Nat} {us : List AV} {a : AV} (h : MO s0 s k us a) (hs : s1.sub s0) : MO s1 s k us a := by
  obtain ⟨h1, h2⟩ := h
  refine ⟨Hp.sub_trans hs h1, ?_⟩
  rcases h2 with h2 | ⟨l, n, cap, cs, q1, q2, q3⟩
  · exact .inl h2
  · exact .inr ⟨l, n, cap, cs, q1, Hp.sub_none hs q2, q3⟩
theorem MO.new {s0 s : Hp} {k l2 : Nat} {us : List AV} {a : AV} {ob : Ob} (h : MO s0 s k us a) (hl : s l2 = none) : MO (s0.set l2 ob) (s.set l2 ob) k us a := by
  obtain ⟨h1, h2⟩ := h
  refine ⟨Hp.sub_set h1, ?_⟩
  rcases h2 with h2 | ⟨l, n, cap, cs, q1, q2, q3, q4⟩
  · exact .inl h2
  · have hne : l ≠ l2 := by rintro rfl; rw [hl] at q3; cases q3
    exact .inr ⟨l, n, cap, cs, q1, by rw [Hp.set_ne _ _ hne]; exact q2, by rw [Hp.set_ne _ _ hne]; exact q3, q4⟩
theorem MO.src {s0 s : Hp} {k : Nat} {us : List AV} {a : AV} (h : MO s0 s k us a) : ∃ n, us.length = n * k ∧ srcF s k a = some (n, us) ∧ lenAA a = some (.v (.int .i64 n)) := by
  obtain ⟨h1, h2⟩ := h
  rcases h2 with ⟨rfl, rfl | rfl⟩ | ⟨l, n, cap, cs, rfl, q2, q3, q4, q5, q6, q7, q8⟩
  · exact ⟨0, by simp, rfl, rfl⟩
  · exact ⟨0, by simp, rfl, rfl⟩
  · refine ⟨n, q6, ?_, rfl⟩
    have : n * k ≤ cs.length := by rw [q4]; exact Nat.mul_le_mul_right _ q7
    simp [srcF, Hp.read_of q3, this, q5]
theorem srcF_bytes {bs : List UInt8} {o : Own} : srcF s 1 (.sl (bs.map byteAV) o) = some (bs.length, bs.map byteAV) := by
  have : ((bs.map byteAV).all fun e => decide (e.cells.length = 1)) = true := by simp [byteAV, AV.cells]
  simp [srcF, this, flat_bytes]
def b2sMA (s : Hp) (a : AV) : Option AV :=
  match srcF s 1 a with
  | some (_, xs) => match bytesOf xs with
    | some l => some (.v (.string ⟨l.toArray⟩))
    | none => none
  | none => none
theorem G_b2sM {x : Operand} : G P (.b2sM x) f s Kv = valK (b2sMA s (ev f x)) (hid1 (fun r => Kv r s) ()) := by
  simp only [G, b2sMA]
  cases srcF s 1 (ev f x) with
  | none => rfl
  | some p =>
    obtain ⟨m, xs⟩ := p
    simp only
    cases bytesOf xs <;> rfl
theorem b2sMA_of {a : AV} {n : Nat} {bs : List UInt8} (h : srcF s 1 a = some (n, bs.map byteAV)) : b2sMA s a = some (.v (.string ⟨bs.toArray⟩)) := by simp [b2sMA, h, bytesOf_map]
def s2bA (a : AV) : Option AV :=
  match a with
  | .v (.string t) => some (.sl (t.data.toList.map byteAV) .any)
  | _ => none
theorem s2bA_str {bs : List UInt8} : s2bA (.v (.string ⟨bs.toArray⟩)) = some (.sl (bs.map byteAV) .any) := by simp [s2bA]
theorem G_s2b {x : Operand} : G P (.s2b x) f s Kv = valK (s2bA (ev f x)) (hid1 (fun r => Kv r s) ()) := by
  simp only [G, s2bA]; generalize ev f x = a
  cases a <;> first | rfl | (rename_i v; cases v <;> rfl)
theorem RV.frozen {H : PH} {w : World} {l n cap k : Nat} {cs : List AV} {v : Value} (hh : Holds H s w) (hl : s l = some (.ro cs)) (hn : n * k ≤ cs.length) (hv : RV H v (.mb l n cap k)) : RV H v (.sl (elemsOf k n cs) .any) := by
  obtain ⟨hone, vs, T, fz, hb, hr, hH⟩ := hh.ob l _ hl
  have hsz : vs.size = cs.length := hr.1
  cases hv with
  | mb l n cap k hk hcap =>
    obtain ⟨e1, e2, e3⟩ := elemsOf_cells hk hn hone
    by_cases h0 : n = 0
    · subst h0
      have : elemsOf k 0 cs = [] := List.eq_nil_of_length_eq_zero e3
      rw [this]
      exact .slEmpty _ _ _ (fun h => by cases h) trivial
    · refine .sl l 0 n cap k (fun j => vs.getD j Go.undef) _ .any hk e3.symm hcap e1 ?_ ?_ ?_ trivial
      · intro c hc; rw [e2] at hc; exact hone c (List.mem_of_mem_take hc)
      · intro j hj; rw [Nat.zero_add]; exact hH j (by omega)
      · intro j u hu
        rw [e2] at hu
        have hj : j < n * k := by have := (List.getElem?_eq_some_iff.1 hu).1; simp at this; omega
        rw [List.getElem?_take_of_lt hj] at hu
        exact hr.2 j u hu
theorem AC.freeze {P : Program} {g : FuncId} {pre post : List AV} {l n cap k : Nat} {cs : List AV} {R : AV → Hp → Prop} (hl : s l = some (.cells cs)) (hn : n * k ≤ cs.length) (h : AC P g (pre ++ .sl (elemsOf k n cs) .any :: post) (s.set l (.ro cs)) R) : AC P g (pre ++ .mb l n cap k :: post) s R := by
  refine h.pre fun vs w H ha hh => ?_
  obtain ⟨H', st⟩ := Step.freeze hh hl
  refine ⟨H', ?_, st⟩
  have ha' := ha.mono st.le
  refine ⟨by rw [ha'.1]; simp, fun j u hu => ?_⟩
  by_cases hj : j = pre.length
  · subst hj
    have h1 := ha'.2 pre.length (.mb l n cap k) (by simp)
    have h2 : u = .sl (elemsOf k n cs) .any := by simpa using hu.symm
    subst h2
    exact RV.frozen st.holds (Hp.set_same _ _ _) hn h1
  · refine ha'.2 j u ?_
    rw [List.getElem?_append] at hu ⊢
    split
    · rename_i h1; rw [if_pos h1] at hu; exact hu
    · rename_i h1
      rw [if_neg h1] at hu
      obtain ⟨i, hi⟩ : ∃ i, j - pre.length = i + 1 := ⟨j - pre.length - 1, by omega⟩
      rw [hi] at hu ⊢
      simpa using hu
end
def rF :=
  And.intro @G_bslM <|
  And.intro @G_appM <|
  And.intro @G_mks <|
  And.intro @G_b2sM <|
  And.intro @G_s2b <|
  And.intro @G_b2s <|
  And.intro @G_mm <|
  And.intro @G_lenT <|
  And.intro @G_slcS <|
  And.intro @G_cpy <|
  And.intro @G_slcAm <|
  And.intro @chkT_guard <|
  @Def_guard
def rG :=
  And.intro @s2bA_str <|
  And.intro @iaSA_mb <|
  And.intro @lenAA_mb <|
  And.intro @slcAA_mb <|
  And.intro @b2sA_map <|
  And.intro @mmA_max <|
  And.intro @mmA_min <|
  And.intro @lenTA_str <|
  And.intro @slcSA_lo <|
  And.intro @slcSA_hi <|
  And.intro @slcSA_both <|
  And.intro @slcMA_all <|
  And.intro @neq_str <|
  And.intro @eql_str <|
  And.intro @idxSA_str <|
  And.intro @ite_true.{1} <|
  And.intro @ite_false.{1} <|
  And.intro @Bool.not_false <|
  And.intro @Bool.not_true <|
  And.intro @Bool.false_xor <|
  And.intro @Bool.true_xor <|
  And.intro @Bool.true_and <|
  And.intro @Bool.false_and <|
  And.intro @decide_true <|
  @decide_false
end Go.Av
namespace Go.Av
open Go
section
variable {P : Ctx} {f : Fr} {s : Hp} {Kv : AV → Hp → Prop}
theorem G_clo {fn : FuncId} {a b : List Operand} : G P (.clo fn a b) f s Kv = letK (.clo fn (a.map (ev f)) (b.map (ev f))) (hid1 (fun r => Kv r s) ()) := rfl
def callVK (P : Ctx) (x : AV) (args : List AV) (s : Hp) (C : AV → Hp → Prop) : Prop :=
  match x with
  | .clo fn ds cs => callOk P.p fn = true ∧ ACp P.p fn (ds ++ args ++ cs) s C (up P.k)
  | _ => False
theorem G_callV {x : Operand} {args : List Operand} : G P (.callV x args) f s Kv = callVK P (ev f x) (args.map (ev f)) s (hid2 Kv ()) := rfl
theorem callV_intro {fn : FuncId} {ds cs args : List AV} {C R : AV → Hp → Prop} {d : Dep C} (hok : callOk P.p fn = true) (h : AC P.p fn (ds ++ args ++ cs) s R) (hr : ∀ r s', R r s' → C r s') : callVK P (.clo fn ds cs) args s (hid2 C d) := ⟨hok, (h.mono hr).p⟩
theorem callVp_intro {fn : FuncId} {ds cs args : List AV} {C R Rp : AV → Hp → Prop} {d : Dep C} (hok : callOk P.p fn = true) (h : ACp P.p fn (ds ++ args ++ cs) s R (up Rp)) (hr : ∀ r s', R r s' → C r s') (hp : ∀ r s', Rp r s' → P.k r s') : callVK P (.clo fn ds cs) args s (hid2 C d) := ⟨hok, h.mono hr (fun _ _ => up_mono hp)⟩
theorem G_mki {t : TypeId} {x : Operand} : G P (.mki t x) f s Kv = letK (.iface t (ev f x)) (hid1 (fun r => Kv r s) ()) := rfl
def asrtA (t : TypeId) (ok : Bool) (z : AV) (x : AV) : Option AV :=
  match x with
  | .iface d y => if d = t then some (if ok then .tup [y, .v (.bool true)] else y) else if ok = true then some (.tup [z, .v (.bool false)]) else none
  | .v .nilIface => if ok = true then some (.tup [z, .v (.bool false)]) else none
  | _ => none
theorem G_asrt {t : TypeId} {ok : Bool} {z : AV} {x : Operand} : G P (.asrt t ok z x) f s Kv = valK (asrtA t ok z (ev f x)) (hid1 (fun r => Kv r s) ()) := by
  simp only [G, asrtA]; generalize ev f x = a
  cases a <;> first
    | rfl
    | (rename_i d y; by_cases h : d = t
       · simp only [h, if_true]; rfl
       · simp only [h, if_false]; cases ok <;> simp [valK, hid1])
    | (rename_i v; cases v <;> first | rfl | (cases ok <;> simp [valK, hid1]))
theorem asrtA_yes {t : TypeId} {z y : AV} : asrtA t true z (.iface t y) = some (.tup [y, .v (.bool true)]) := by simp [asrtA]
theorem asrtA_no {t d : TypeId} {z y : AV} (h : d ≠ t) : asrtA t true z (.iface d y) = some (.tup [z, .v (.bool false)]) := by simp [asrtA, h]
theorem asrtA_nil {t : TypeId} {z : AV} : asrtA t true z (.v .nilIface) = some (.tup [z, .v (.bool false)]) := by simp [asrtA]
theorem asrtA_one {t : TypeId} {z y : AV} : asrtA t false z (.iface t y) = some y := by simp [asrtA]
def eqiA (neg : Bool) (x : AV) : Option AV :=
  match x with
  | .iface _ _ => some (.v (.bool neg))
  | .v .nilIface => some (.v (.bool (!neg)))
  | _ => none
theorem G_eqi {neg : Bool} {x : Operand} : G P (.eqi neg x) f s Kv = valK (eqiA neg (ev f x)) (hid1 (fun r => Kv r s) ()) := by
  simp only [G, eqiA]; generalize ev f x = a
  cases a <;> first
    | rfl
    | (rename_i v; cases v <;> rfl)
theorem eqiA_some {neg : Bool} {t : TypeId} {y : AV} : eqiA neg (.iface t y) = some (.v (.bool neg)) := rfl
theorem eqiA_nil {neg : Bool} : eqiA neg (.v .nilIface) = some (.v (.bool (!neg))) := rfl
def eqfnA (neg : Bool) (x : AV) : Option AV :=
  match x with
  | .clo _ _ _ => some (.v (.bool neg))
  | .v .nilFunc => some (.v (.bool (!neg)))
  | _ => none
theorem G_eqfn {neg : Bool} {x : Operand} : G P (.eqfn neg x) f s Kv = valK (eqfnA neg (ev f x)) (hid1 (fun r => Kv r s) ()) := by
  simp only [G, eqfnA]; generalize ev f x = a
  cases a <;> first
    | rfl
    | (rename_i v; cases v <;> rfl)
theorem eqfnA_some {neg : Bool} {g : Nat} {a b : List AV} : eqfnA neg (.clo g a b) = some (.v (.bool neg)) := rfl
theorem eqfnA_nil {neg : Bool} : eqfnA neg (.v .nilFunc) = some (.v (.bool (!neg))) := rfl
def panK (P : Ctx) (x : AV) (s : Hp) : Prop :=
  match x with
  | .iface t y => up P.k (.iface t y) s
  | _ => False
theorem G_pan {x : Operand} : G P (.pan x) f s Kv = panK P (ev f x) s := rfl
theorem pan_intro {t : TypeId} {y : AV} (h : P.k (.iface t y) s) : panK P (.iface t y) s := up_of h
def rngSK (x : AV) (s : Hp) (C : Nat → ByteArray → Prop) : Prop :=
  match x with
  | .v (.string t) => ∀ l, s l = none → C l t
  | _ => False
theorem G_rngS {x : Operand} : G P (.rngS x) f s Kv = rngSK (ev f x) s (hid2 (fun l t => Kv (.ptr l 0) (s.set l (.it t 0))) ()) := rfl
theorem rngS_str {bs : List UInt8} {C : Nat → ByteArray → Prop} {d : Dep C} : rngSK (.v (.string ⟨bs.toArray⟩)) s (hid2 C d) = newK s (hid1 (fun l => C l ⟨bs.toArray⟩) ()) := rfl
def nxtSK (x : AV) (s : Hp) (C : AV → Hp → Prop) : Prop :=
  match x with
  | .ptr l off => off = 0 ∧ match s l with
    | some (.it t pos) => if pos < t.size then C (.tup [.v (.bool true), .v (.int .i64 pos), .v (.int .i32 (Utf8.decode t pos).1)]) (s.set l (.it t (pos + (Utf8.decode t pos).2))) else C (.tup [.v (.bool false)]) s
    | _ => False
  | _ => False
theorem G_nxtS {x : Operand} : G P (.nxtS x) f s Kv = nxtSK (ev f x) s (hid2 Kv ()) := rfl
theorem nxtS_some {l pos : Nat} {bs : List UInt8} {C : AV → Hp → Prop} {d : Dep C} (h : s l = some (.it ⟨bs.toArray⟩ pos)) (hp : pos < bs.length)
    (hC : C (.tup [.v (.bool true), .v (.int .i64 pos), .v (.int .i32 (Utf8.decode ⟨bs.toArray⟩ pos).1)]) (s.set l (.it ⟨bs.toArray⟩ (pos + (Utf8.decode ⟨bs.toArray⟩ pos).2)))) : nxtSK (.ptr l 0) s (hid2 C d) := by
  refine ⟨rfl, ?_⟩
  rw [h]
  simp only [size_str, if_pos hp]; exact hC
theorem nxtS_none {l pos : Nat} {bs : List UInt8} {C : AV → Hp → Prop} {d : Dep C} (h : s l = some (.it ⟨bs.toArray⟩ pos)) (hp : ¬ pos < bs.length) (hC : C (.tup [.v (.bool false)]) s) : nxtSK (.ptr l 0) s (hid2 C d) := by
  refine ⟨rfl, ?_⟩
  rw [h]
  simp only [size_str, if_neg hp]; exact hC
def s2bMK (x : AV) (s : Hp) (C : AV → Hp → Prop) : Prop :=
  match x with
  | .v (.string t) => t.size ≤ 140737488355328 ∧ ∀ g cap sp, s g = none → t.size ≤ cap → cap ≤ maxLen → sp.length = cap - t.size → C (.mb g t.size cap 1) (s.set g (.sc (t.data.toList.map byteAV ++ sp)))
  | _ => False
theorem G_s2bM {x : Operand} : G P (.s2bM x) f s Kv = s2bMK (ev f x) s (hid2 Kv ()) := rfl
theorem G_allocT {T : TypeId} {z : List AV} : G P (.allocT T z) f s Kv = newK s (hid1 (fun l => Kv (.ptr l 0) (s.set l (.tc T z))) ()) := rfl
def appTK (e : TypeId) (s : Hp) (x y : AV) (C : AV → Hp → Prop) : Prop :=
  match srcS s 1 y with
    | some (m, ys) => match x with
      | .sl xs o => xs = [] ∧ (o = .nil ∨ o = .zero) ∧ m ≤ 140737488355328 ∧
        (if m = 0 then C (.sl [] o) s else ∀ g cap sp, s g = none → m ≤ cap → cap ≤ maxLen → sp.length = (cap - m) * 1 → C (.mb g m cap 1) (s.set g (.tc e (ys ++ sp))))
      | .mb l n cap k' => match s l with
        | some (.tc T cs) => T = e ∧ k' = 1 ∧ cs.length = cap * 1 ∧ n + m ≤ 140737488355328 ∧
          (if n + m ≤ cap then C (.mb l (n + m) cap 1) (s.set l (.tc T (putAt cs (n * 1) ys)))
           else ∀ g cap' sp, s g = none → n + m ≤ cap' → cap' ≤ maxLen → sp.length = (cap' - (n + m)) * 1 → C (.mb g (n + m) cap' 1) (s.set g (.tc e (cs.take (n * 1) ++ ys ++ sp))))
        | _ => False
      | _ => False
    | none => False
theorem G_appT {e : TypeId} {x y : Operand} : G P (.appT e x y) f s Kv = appTK e s (ev f x) (ev f y) (hid2 Kv ()) := rfl
def toUK (x : AV) (s : Hp) (C : AV → Prop) : Prop :=
  match x with
  | .ptr l off => match s.read l with
    | some cs => off < cs.length ∧ C (.ptr l off)
    | none => False
  | _ => False
theorem G_toU {x : Operand} : G P (.toU x) f s Kv = toUK (ev f x) s (hid1 (fun r => Kv r s) ()) := by
  simp only [G, toUK]; generalize ev f x = a
  cases a <;> rfl
def frUK (T : TypeId) (n : Nat) (x : AV) (s : Hp) (C : AV → Prop) : Prop :=
  match x with
  | .ptr l off => off = 0 ∧ match s l with
    | some (.tc T' cs) => T' = T ∧ cs.length = n ∧ C (.ptr l off)
    | _ => False
  | _ => False
theorem G_frU {T : TypeId} {n : Nat} {x : Operand} : G P (.frU T n x) f s Kv = frUK T n (ev f x) s (hid1 (fun r => Kv r s) ()) := by
  simp only [G, frUK]; generalize ev f x = a
  cases a <;> rfl
def sdatA (x : AV) : Option AV :=
  match x with
  | .sl [] .nil => some (.v (.pointer none))
  | .mb l _ cap _ => if 0 < cap then some (.ptr l 0) else none
  | _ => none
theorem G_sdat {x : Operand} : G P (.sdat x) f s Kv = valK (sdatA (ev f x)) (hid1 (fun r => Kv r s) ()) := by
  simp only [G, sdatA]; generalize ev f x = a
  cases a <;> first
    | rfl
    | (rename_i xs o; cases xs <;> cases o <;> simp [valK, hid1])
    | (simp only [valK_ite, hid1_eq]; done)
theorem sdatA_nil : sdatA (.sl [] .nil) = some (.v (.pointer none)) := rfl
theorem sdatA_mb {l n cap k : Nat} (h : 0 < cap) : sdatA (.mb l n cap k) = some (.ptr l 0) := by simp [sdatA, h]
def ustrK (e : TypeId) (x y : AV) (s : Hp) (C : AV → Hp → Prop) : Prop :=
  match x, y with
    | .v (.pointer none), .v (.int k n) => k = .i64 ∧ n = 0 ∧ C (.v (.string ⟨#[]⟩)) s
    | .ptr l off, .v (.int k n) => k = .i64 ∧ off = 0 ∧ 0 < n ∧ match s l with
      | some (.tc T cs) => T = e ∧ n ≤ cs.length ∧ n ≤ 9223372036854775807 ∧ match bytesOf (cs.take n.toNat) with
        | some bs => C (.v (.string ⟨bs.toArray⟩)) (s.del l)
        | none => False
      | _ => False
    | _, _ => False
theorem G_ustr {e : TypeId} {x y : Operand} : G P (.ustr e x y) f s Kv = ustrK e (ev f x) (ev f y) s (hid2 Kv ()) := by
  simp only [G, ustrK]; generalize ev f x = a; generalize ev f y = b
  cases a <;> first
    | rfl
    | (rename_i v; cases v <;> first
        | rfl
        | (rename_i p; cases p <;> first | rfl | (cases b <;> first | rfl | (rename_i u; cases u <;> rfl))))
    | (cases b <;> first | rfl | (rename_i u; cases u <;> rfl))
def storeXK (s : Hp) (n : Nat) (p : AV) (ys : List AV) (C : Hp → Prop) : Prop :=
  match p with
  | .ptr l off => match s l with
    | some (.cells cs) => ys.length = n ∧ off + n ≤ cs.length ∧ C (s.set l (.cells (putAt cs off ys)))
    | some (.tc T cs) => ys.length = n ∧ off + n ≤ cs.length ∧ C (s.set l (.tc T (putAt cs off ys)))
    | some (.sc cs) => ys.length = n ∧ off + n ≤ cs.length ∧ C (s.set l (.sc (putAt cs off ys)))
    | _ => False
  | _ => False
theorem G_storeX {n : Nat} {x y : Operand} : G P (.storeX n x y) f s Kv = storeXK s n (ev f x) (ev f y).cells (hid1 (fun s' => Kv (.tup []) s') ()) := by
  simp only [G, storeXK]; generalize ev f x = a
  cases a <;> rfl
theorem awp_refuse {K : Ex → Fr → Hp → Prop} : awp P .refuse K f s = False := rfl
theorem Hp.read_set_tc {l : Nat} {T : TypeId} {cs : List AV} : (s.set l (.tc T cs)).read l = some cs := by simp [Hp.read, Hp.set]
theorem cells_clo {g : Nat} {a b : List AV} : (AV.clo g a b).cells = [.clo g a b] := rfl
theorem nilcA_clo {g : Nat} {a b : List AV} : nilcA (.clo g a b) = some (.clo g a b) := rfl
def eqppA (neg : Bool) (s : Hp) (x y : AV) : Option AV :=
  match x, y with
    | .ptr _ _, .v (.pointer none) => some (.v (.bool neg))
    | .v (.pointer none), .ptr _ _ => some (.v (.bool neg))
    | .v (.pointer none), .v (.pointer none) => some (.v (.bool (!neg)))
    | .ptr l o, .ptr l' o' => if isCells s l = true ∧ isCells s l' = true then some (.v (.bool (xor neg (decide (l = l' ∧ o = o'))))) else none
    | _, _ => none
theorem G_eqpp {neg : Bool} {x y : Operand} : G P (.eqpp neg x y) f s Kv = valK (eqppA neg s (ev f x) (ev f y)) (hid1 (fun r => Kv r s) ()) := by
  simp only [G, eqppA]; generalize ev f x = a; generalize ev f y = b
  cases a <;> first
    | rfl
    | (rename_i v; cases v <;> first
        | rfl
        | (rename_i p; cases p <;> first | rfl | (cases b <;> first | rfl | (rename_i u; cases u <;> first | rfl | (rename_i q; cases q <;> rfl)))))
    | (cases b <;> first | rfl | (rename_i u; cases u <;> first | rfl | (rename_i q; cases q <;> rfl)) | (simp only [valK_ite, hid1_eq]; done))
theorem eqppA_same {neg : Bool} {l o : Nat} (h : isCells s l = true) : eqppA neg s (.ptr l o) (.ptr l o) = some (.v (.bool (!neg))) := by simp [eqppA, h]
theorem eqppA_nil {neg : Bool} {l o : Nat} : eqppA neg s (.ptr l o) (.v (.pointer none)) = some (.v (.bool neg)) := rfl
theorem eqppA_nil2 {neg : Bool} {l o : Nat} : eqppA neg s (.v (.pointer none)) (.ptr l o) = some (.v (.bool neg)) := rfl
theorem eqppA_nn {neg : Bool} : eqppA neg s (.v (.pointer none)) (.v (.pointer none)) = some (.v (.bool (!neg))) := rfl
end
theorem beq_tt : (true == true) = true := rfl
theorem beq_tf : (true == false) = false := rfl
theorem beq_ft : (false == true) = false := rfl
theorem beq_ff : (false == false) = true := rfl
def rK :=
  And.intro @G_clo <|
  And.intro @G_callV <|
  And.intro @G_mki <|
  And.intro @G_asrt <|
  And.intro @G_eqi <|
  And.intro @G_eqfn <|
  And.intro @G_pan <|
  And.intro @G_rngS <|
  And.intro @G_nxtS <|
  And.intro @G_s2bM <|
  And.intro @G_allocT <|
  And.intro @G_appT <|
  And.intro @G_toU <|
  And.intro @G_frU <|
  And.intro @G_sdat <|
  And.intro @G_ustr <|
  And.intro @G_storeX <|
  And.intro @G_eqpp <|
  @awp_refuse
def rM :=
  And.intro @beq_tt <|
  And.intro @beq_tf <|
  And.intro @beq_ft <|
  And.intro @beq_ff <|
  And.intro @asrtA_yes <|
  And.intro @asrtA_no <|
  And.intro @asrtA_nil <|
  And.intro @asrtA_one <|
  And.intro @eqiA_some <|
  And.intro @eqiA_nil <|
  And.intro @eqfnA_some <|
  And.intro @eqfnA_nil <|
  And.intro @rngS_str <|
  And.intro @sdatA_nil <|
  And.intro @sdatA_mb <|
  And.intro @Hp.read_set_tc <|
  And.intro @cells_clo <|
  And.intro @nilcA_clo <|
  And.intro @eqppA_same <|
  And.intro @eqppA_nil <|
  And.intro @eqppA_nil2 <|
  @eqppA_nn
end Go.Av
namespace Go.Av
open Go
noncomputable def putM (F : AV → Option AV) (k v : AV) : AV → Option AV := fun k' => @ite _ (k' = k) (Classical.propDecidable _) (some v) (F k')
theorem putM_same {F : AV → Option AV} {k v : AV} : putM F k v k = some v := by simp [putM]
theorem putM_ne {F : AV → Option AV} {k v k' : AV} (h : k' ≠ k) : putM F k v k' = F k' := by simp [putM, h]
theorem findM_shift (k : AV) : ∀ (us : List (AV × AV × Nat)) (i : Nat), findM us k i = (findM us k 0).map fun r => (r.1 + i, r.2)
  | [], _ => rfl
  | u :: us, i => by
    unfold findM
    split
    · simp
    · rw [findM_shift k us (i + 1), findM_shift k us (0 + 1)]
      cases findM us k 0 <;> simp [Nat.add_comm, Nat.add_left_comm, Nat.add_assoc]
theorem findM_cons (u : AV × AV × Nat) (us : List (AV × AV × Nat)) (k : AV) : findM (u :: us) k 0 = @ite _ (k = u.1) (Classical.propDecidable _) (some (0, u.2.1)) ((findM us k 0).map fun r => (r.1 + 1, r.2)) := by
  conv => lhs; unfold findM
  rw [findM_shift k us (0 + 1)]
  by_cases h : k = u.1
  · rw [if_pos ((peq_iff _ _).2 h), if_pos h]
  · rw [if_neg (fun e => h ((peq_iff _ _).1 e)), if_neg h]
theorem findM_push (k v : AV) (c : Nat) (k' : AV) : ∀ us : List (AV × AV × Nat), findM us k 0 = none → (findM (us ++ [(k, v, c)]) k' 0).map (·.2) = putM (fun k' => (findM us k' 0).map (·.2)) k v k'
  | [], _ => by
    rw [List.nil_append, findM_cons]
    by_cases h : k' = k
    · subst h; simp [putM]
    · simp [putM, h, findM]
  | u :: us, hn => by
    rw [findM_cons] at hn
    split at hn
    · cases hn
    · next hk =>
      have hn' : findM us k 0 = none := by cases hf : findM us k 0 with | none => rfl | some r => rw [hf] at hn; cases hn
      have ih := findM_push k v c k' us hn'
      rw [List.cons_append, findM_cons]
      by_cases h : k' = u.1
      · have hkk : k' ≠ k := fun e => hk (by rw [← e]; exact h)
        rw [if_pos h, putM_ne hkk]
        rw [findM_cons, if_pos h]
      · rw [if_neg h]
        by_cases hkk : k' = k
        · subst hkk
          rw [putM_same] at ih ⊢
          cases hf : findM (us ++ [(k', v, c)]) k' 0 with
          | none => rw [hf] at ih; cases ih
          | some r => rw [hf] at ih; simpa using ih
        · rw [putM_ne hkk] at ih ⊢
          rw [findM_cons, if_neg h, Option.map_map, Option.map_map]
          exact ih
theorem findM_set (k v v' : AV) (k' : AV) : ∀ (us : List (AV × AV × Nat)) (j : Nat), findM us k 0 = some (j, v) → (findM (us.modify j fun u => (u.1, v', u.2.2)) k' 0).map (·.2) = putM (fun k' => (findM us k' 0).map (·.2)) k v' k'
  | [], _, h => by simp [findM] at h
  | u :: us, j, h => by
    rw [findM_cons] at h
    split at h
    · next hk =>
      simp only [Option.some.injEq, Prod.mk.injEq] at h
      obtain ⟨rfl, _⟩ := h
      rw [List.modify_zero_cons, findM_cons]
      by_cases h : k' = k
      · subst h; rw [putM_same]; simp [hk]
      · have : ¬ k' = u.1 := fun e => h (by rw [e, ← hk])
        rw [putM_ne h, if_neg this]
        rw [findM_cons, if_neg this]
    · next hk =>
      cases hf : findM us k 0 with
      | none => rw [hf] at h; cases h
      | some r =>
        rw [hf] at h
        simp only [Option.map_some, Option.some.injEq, Prod.mk.injEq] at h
        obtain ⟨rfl, rfl⟩ := h
        have ih := findM_set k r.2 v' k' us r.1 hf
        rw [List.modify_succ_cons, findM_cons]
        by_cases h : k' = u.1
        · have hkk : k' ≠ k := fun e => hk (by rw [← e]; exact h)
          rw [if_pos h, putM_ne hkk]
          rw [findM_cons, if_pos h]
        · rw [if_neg h]
          by_cases hkk : k' = k
          · subst hkk
            rw [putM_same] at ih ⊢
            rw [Option.map_map]
            exact ih
          · rw [putM_ne hkk] at ih ⊢
            rw [findM_cons, if_neg h, Option.map_map, Option.map_map]
            exact ih
structure MapIs (rs : List (Nat × CK)) (us : List (AV × AV × Nat)) (clock : Nat) (F : AV → Option AV) : Prop where
  val : ∀ k, (findM us k 0).map (·.2) = F k
  keys : keysOk rs us
  born : (us.map (·.2.2)).Nodup
  lt : ∀ u ∈ us, u.2.2 < clock
theorem MapIs.new {rs : List (Nat × CK)} : MapIs rs [] 0 fun _ => none := ⟨fun _ => rfl, fun u h => by simp at h, by simp, fun u h => by simp at h⟩
theorem map_born_modify (us : List (AV × AV × Nat)) (j : Nat) (v : AV) : (us.modify j fun u => (u.1, v, u.2.2)).map (·.2.2) = us.map (·.2.2) := by
  induction us generalizing j with
  | nil => simp
  | cons u us ih => cases j with
    | zero => simp
    | succ j => simp [ih]
theorem mem_modify {us : List (AV × AV × Nat)} {j : Nat} {v : AV} {u : AV × AV × Nat} (h : u ∈ us.modify j fun u => (u.1, v, u.2.2)) : ∃ u0 ∈ us, u.1 = u0.1 ∧ u.2.2 = u0.2.2 := by
  induction us generalizing j with
  | nil => simp at h
  | cons u0 us ih => cases j with
    | zero =>
      simp only [List.modify_zero_cons, List.mem_cons] at h
      rcases h with rfl | h
      · exact ⟨u0, by simp, rfl, rfl⟩
      · exact ⟨u, by simp [h], rfl, rfl⟩
    | succ j =>
      simp only [List.modify_succ_cons, List.mem_cons] at h
      rcases h with rfl | h
      · exact ⟨u, by simp, rfl, rfl⟩
      · obtain ⟨q, h1, h2⟩ := ih h; exact ⟨q, by simp [h1], h2⟩
theorem MapIs.set {rs : List (Nat × CK)} {us : List (AV × AV × Nat)} {clock : Nat} {F : AV → Option AV} (h : MapIs rs us clock F) {k v v' : AV} {j : Nat} (hf : findM us k 0 = some (j, v)) : MapIs rs (us.modify j fun u => (u.1, v', u.2.2)) clock (putM F k v') where
  val := fun k' => by
    rw [findM_set k v v' k' us j hf]
    simp only [putM]
    rw [h.val]
  keys := fun u hu => by
    obtain ⟨u0, h1, h2, _⟩ := mem_modify hu
    rw [h2]; exact h.keys u0 h1
  born := by rw [map_born_modify]; exact h.born
  lt := fun u hu => by
    obtain ⟨u0, h1, _, h2⟩ := mem_modify hu
    rw [h2]; exact h.lt u0 h1
theorem MapIs.push {rs : List (Nat × CK)} {us : List (AV × AV × Nat)} {clock : Nat} {F : AV → Option AV} (h : MapIs rs us clock F) {cs : List AV} {v : AV} (hfit : fitR rs cs) (hf : findM us (.agg cs) 0 = none) : MapIs rs (us ++ [(.agg cs, v, clock)]) (clock + 1) (putM F (.agg cs) v) where
  val := fun k' => by
    rw [findM_push _ v clock k' us hf]
    simp only [putM]
    rw [h.val]
  keys := fun u hu => by
    rcases List.mem_append.1 hu with hu | hu
    · exact h.keys u hu
    · simp at hu; subst hu; exact ⟨cs, rfl, hfit⟩
  born := by
    rw [List.map_append, List.nodup_append]
    refine ⟨h.born, by simp, ?_⟩
    intro a ha b hb
    obtain ⟨u, hu, rfl⟩ := List.mem_map.1 ha
    simp at hb; subst hb
    exact Nat.ne_of_lt (h.lt u hu)
  lt := fun u hu => by
    rcases List.mem_append.1 hu with hu | hu
    · exact Nat.lt_succ_of_lt (h.lt u hu)
    · simp at hu; subst hu; exact Nat.lt_succ_self _
def MapAt (s : Hp) (l : Nat) (rs : List (Nat × CK)) (F : AV → Option AV) : Prop := ∃ us clock, s l = some (.mp us clock) ∧ MapIs rs us clock F
def MapMid (s : Hp) (l : Nat) (rs : List (Nat × CK)) (F : AV → Option AV) (k : AV) (b : Nat) : Prop :=
  ∃ us clock, s l = some (.mp us clock) ∧ ∀ v, ∃ j, bornM us (b : Int) = some j ∧ MapIs rs (us.modify j fun u => (u.1, v, u.2.2)) clock (putM F k v)
theorem MapAt.mono {s s' : Hp} {l : Nat} {rs : List (Nat × CK)} {F : AV → Option AV} (h : MapAt s l rs F) (hs : s' l = s l) : MapAt s' l rs F := by
  obtain ⟨us, c, h1, h2⟩ := h; exact ⟨us, c, by rw [hs]; exact h1, h2⟩
theorem MapMid.mono {s s' : Hp} {l : Nat} {rs : List (Nat × CK)} {F : AV → Option AV} {k : AV} {b : Nat} (h : MapMid s l rs F k b) (hs : s' l = s l) : MapMid s' l rs F k b := by
  obtain ⟨us, c, h1, h2⟩ := h; exact ⟨us, c, by rw [hs]; exact h1, h2⟩
section
variable {P : Ctx} {f : Fr} {s : Hp} {Kv : AV → Hp → Prop}
theorem G_mkM : G P .mkM f s Kv = newK s (hid1 (fun l => Kv (.mapr l) (s.set l (.mp [] 0))) ()) := rfl
def lkpK (ok : Bool) (rs : List (Nat × CK)) (z : AV) (s : Hp) (x k : AV) (C : AV → Prop) : Prop :=
  match x, k with
  | .mapr l, .agg cs => match s l with
    | some (.mp us _) => fitR rs cs ∧ keysOk rs us ∧ (match findM us (.agg cs) 0 with
      | some (_, v) => C (if ok then .tup [v, .v (.bool true)] else v)
      | none => C (if ok then .tup [z, .v (.bool false)] else z))
    | _ => False
  | _, _ => False
theorem G_lkp {ok : Bool} {rs : List (Nat × CK)} {z : AV} {x k : Operand} : G P (.lkp ok rs z x k) f s Kv = lkpK ok rs z s (ev f x) (ev f k) (hid1 (fun r => Kv r s) ()) := by
  simp only [G, lkpK]; generalize ev f x = a; generalize ev f k = b
  cases a <;> first
    | rfl
    | (cases b <;> rfl)
def mupK (rs : List (Nat × CK)) (s : Hp) (x k v : AV) (C : Hp → Prop) : Prop :=
  match x, k with
  | .mapr l, .agg cs => match s l with
    | some (.mp us clock) => fitR rs cs ∧ keysOk rs us ∧ C (s.set l (.mp (updM us (.agg cs) v clock).1 (updM us (.agg cs) v clock).2))
    | _ => False
  | _, _ => False
theorem G_mup {rs : List (Nat × CK)} {x k v : Operand} : G P (.mup rs x k v) f s Kv = mupK rs s (ev f x) (ev f k) (ev f v) (hid1 (fun s' => Kv (.tup []) s') ()) := by
  simp only [G, mupK]; generalize ev f x = a; generalize ev f k = b
  cases a <;> first
    | rfl
    | (cases b <;> rfl)
def mentK (rs : List (Nat × CK)) (z : AV) (s : Hp) (x k : AV) (C : AV → Hp → Prop) : Prop :=
  match x, k with
  | .mapr l, .agg cs => match s l with
    | some (.mp us clock) => fitR rs cs ∧ keysOk rs us ∧ C (.tup [(entM us (.agg cs) z clock).1, .v (.int .i64 ((entM us (.agg cs) z clock).2.1 : Nat))]) (s.set l (.mp (entM us (.agg cs) z clock).2.2.1 (entM us (.agg cs) z clock).2.2.2))
    | _ => False
  | _, _ => False
theorem G_ment {rs : List (Nat × CK)} {z : AV} {x k : Operand} : G P (.ment rs z x k) f s Kv = mentK rs z s (ev f x) (ev f k) (hid2 Kv ()) := rfl
def mstK (s : Hp) (x i v : AV) (C : Hp → Prop) : Prop :=
  match x, i with
  | .mapr l, .v (.int _ b) => match s l with
    | some (.mp us clock) => match bornM us b with
      | some j => C (s.set l (.mp (us.modify j fun u => (u.1, v, u.2.2)) clock))
      | none => False
    | _ => False
  | _, _ => False
theorem G_mst {x i v : Operand} : G P (.mst x i v) f s Kv = mstK s (ev f x) (ev f i) (ev f v) (hid1 (fun s' => Kv (.tup []) s') ()) := by
  simp only [G, mstK]; generalize ev f x = a; generalize ev f i = b
  cases a <;> first
    | rfl
    | (cases b <;> first | rfl | (rename_i u; cases u <;> rfl))
end
theorem binA_neqS {a b : List UInt8} : binA .neq (strV a) (strV b) = some (.v (.bool (!decide (a = b)))) := by
  simp only [strV, binA_v, neq_str a b]
  by_cases h : a = b <;> simp [h]
theorem binA_eqlS {a b : List UInt8} : binA .eql (strV a) (strV b) = some (.v (.bool (decide (a = b)))) := by
  simp only [strV, binA_v, eql_str a b]; rfl
theorem b2sMA_bytes {s : Hp} {bs : List UInt8} {o : Own} : b2sMA s (.sl (bs.map byteAV) o) = some (strV bs) := b2sMA_of srcF_bytes
theorem b2sA_bytes {bs : List UInt8} {o : Own} : b2sA (.sl (bs.map byteAV) o) = some (strV bs) := b2sA_map
def rP :=
  And.intro @G_mkM <|
  And.intro @G_lkp <|
  And.intro @G_mup <|
  And.intro @G_ment <|
  @G_mst
def rQ :=
  And.intro @binA_neqS <|
  And.intro @binA_eqlS <|
  And.intro @b2sMA_bytes <|
  @b2sA_bytes
def rA := And.intro rD (And.intro rF (And.intro rK rP))
def rZ := And.intro rU <| And.intro rX <| And.intro rG <| And.intro rM rQ
end Go.Av
namespace Go.Av
open Go
def ACret (P : Program) (f : FuncId) (args : List AV) (s : Hp) (R : Hp → Prop) : Prop :=
  ∀ (vs : Array Value) (w : World) (H : PH), RVA H vs args → Holds H s w →
    CallsD P f vs .returning w fun e u' w' => (∃ v, e = .returned v) ∧ u' = .returning ∧ ∃ H' s', Step H s w H' s' w' ∧ R s'
def ACrec (P : Program) (f : FuncId) (args : List AV) (r : AV) (s : Hp) (R : Hp → Prop) : Prop :=
  ∀ (vs : Array Value) (w : World) (H : PH) (v : Value), RVA H vs args → RV H v r → Holds H s w →
    CallsD P f vs (.panicking [{ v, recovered := false }]) w fun e u' w' => (∃ x, e = .returned x) ∧ u' = .panicking [{ v, recovered := true }] ∧ ∃ H' s', Step H s w H' s' w' ∧ R s'
def isDefer (o : Oper) : Bool :=
  match o.op with
  | .defer _ => true
  | _ => false
def splitD : Code → Option (List Code × Nat × Array Oper × Code)
  | .seq a b => match a with
    | .region id ops false => if ops.toList.any isDefer then some ([], id, ops, b) else (splitD b).map fun r => (a :: r.1, r.2)
    | a => (splitD b).map fun r => (a :: r.1, r.2)
  | _ => none
def lastD (ops : Array Oper) : Option (List Oper × Oper × Operand) :=
  match ops.toList.reverse with
  | o :: r => match o.op, o.dst, o.guard with
    | .defer c, none, none => match c.callee, c.args.toList with
      | .value x, [] => some (r.reverse, o, x)
      | _, _ => none
    | _, _, _ => none
  | [] => none
structure DFunc where
  ntmps : Nat
  nparams : Nat
  pre : List ACode
  dops : List AOper
  clo : Operand
  post : ACode
  results : List (Nat × Option (Bool × Nat))
  /-- result slots that are written behind the deferring -/
  free : List Nat
def freeOf (m : Nat) (rs : List (Nat × Option (Bool × Nat))) : List Nat := if m = 4 then (rs.filter fun p => p.2.isNone).map (·.1) else []
def prepD (P : Program) (m : Nat) (f : FuncId) : Option DFunc :=
  match P.funcs[f]? with
  | some fn => match fn.body with
    | some c => match splitD c, mapAll (prepRes P) fn.results.toList with
      | some (pre, _, ops, b), some rs => match lastD ops with
        | some (dl, _, x) => match mapAll (prepCode P ((envOf P c).all m fn.ntmps) fn.ntmps) pre, mapAll (prepOper P ((envOf P c).all m fn.ntmps) fn.ntmps ops) dl, prepCode P { (envOf P c).all m fn.ntmps with pins := (rs.map (·.1)).filter fun t => !(freeOf m rs).contains t } fn.ntmps b with
          | some xs, some ys, some y => if fn.params.size ≤ fn.ntmps ∧ opOk x = true then some ⟨fn.ntmps, fn.params.size, xs, ys, x, y, rs, freeOf m rs⟩ else none
          | _, _, _ => none
        | none => none
      | _, _ => none
    | none => none
  | none => none
def awpL (P : Ctx) : List ACode → (Ex → Fr → Hp → Prop) → Fr → Hp → Prop
  | [], K => K .norm
  | x :: xs, K => awp P x (seqK (awpL P xs K) K)
def resK (rs : List (Nat × Option (Bool × Nat))) (R : AV → Hp → Prop) (f : Fr) (s : Hp) : Prop := ∃ r s', resAll f s rs = some r ∧ s'.sub s ∧ R r s'
def dretK (p : Program) (n : FuncId) (ags : List AV) (rs : List (Nat × Option (Bool × Nat))) (R : AV → Hp → Prop) : Ex → Fr → Hp → Prop
  | .exit _ => fun _ _ => False
  | _ => fun f s => ACret p n ags s (resK rs R f)
def dferV (p : Program) (post : ACode) (rs : List (Nat × Option (Bool × Nat))) (R : AV → Hp → Prop) (free : List Nat) (c : AV) (f : Fr) (s : Hp) : Prop :=
  match c with
  | .clo n ds cs => callOk p n = true ∧ awp ⟨p, fun r s' => ACrec p n (ds ++ cs) r s' (fun s'' => ∀ f', (∀ t, free.contains t = false → f' t = f t) → resK rs R f' s'')⟩ post (dretK p n (ds ++ cs) rs R) f s
  | _ => False
def dK (P : Program) (dops : List AOper) (clo : Operand) (post : ACode) (rs : List (Nat × Option (Bool × Nat))) (R : AV → Hp → Prop) (free : List Nat) : Ex → Fr → Hp → Prop
  | .norm => runL (Ctx.of P) dops (fun f s => dferV P post rs R free (ev f clo) f s)
  | .ret => resK rs R
  | .exit _ => fun _ _ => False
section
variable {P : Program} {kp : AV → Hp → Prop} {env : Env} {n : Nat} {H0 : PH} {s0 : Hp} {w0 : World} {D : List Deferred × List (Nat × Value)}
theorem runL_soundT (hpin : ∀ p ∈ D.2, p.1 ∈ env.pins) {ops : Array Oper} {Q : Exit → Act → World → Prop} {K : Fr → Hp → Prop} {rest : List Oper} (hQ : ∀ f s a w, Sim D n H0 s0 w0 f s a w → K f s → wpList P ops Q rest a w) (hQp : ∀ a v r H' s' w', (DP D a ∧ ∃ f, FRel H' a f) → Step H0 s0 w0 H' s' w' → RV H' v r → up kp r s' → Q (.panic [{ v, recovered := false }]) a w') : ∀ (l : List Oper) (ys : List AOper), mapAll (prepOper P env n ops) l = some ys →
    ∀ (f : Fr) (s : Hp) (a : Act) (w : World), Sim D n H0 s0 w0 f s a w → runL ⟨P, kp⟩ ys K f s → wpList P ops Q (l ++ rest) a w
  | [], ys, h, f, s, a, w, hs, hr => by
    simp only [mapAll, Option.some.injEq] at h; subst h
    exact hQ f s a w hs hr
  | o :: l, ys, h, f, s, a, w, hs, hr => by
    simp only [mapAll] at h
    split at h
    case h_2 => cases h
    rename_i y ys' hy hys
    obtain rfl := Option.some.inj h
    have ih := runL_soundT hpin hQ hQp l ys' hys
    have := oper_sound hpin hy hs hr Q (fun v r H' s' w' hg => hQp a v r H' s' w' ⟨hs.2.1, hg⟩)
    simp only [List.cons_append, wpList]
    split
    · rename_i hw
      rw [if_pos hw] at this
      exact .inl (Oper.wp_mono (fun a' w' ⟨f', s', hs', hr'⟩ => ih f' s' a' w' hs' hr') this)
    · rename_i hw
      rw [if_neg hw] at this
      obtain ⟨f', s', hs', hr'⟩ := this
      exact ih f' s' _ w hs' hr'
theorem spine_sound (hm : P.follows .mixedOrders = true) {K : Ex → Fr → Hp → Prop} {Q : Exit → Act → World → Prop} {id : Nat} {ops : Array Oper} {b : Code}
    (hQ : ∀ e a w, post ([], []) kp n H0 s0 w0 K e a w → (match e with | .normal => True | e => Q e a w))
    (hD : ∀ f s a w, Sim ([], []) n H0 s0 w0 f s a w → K .norm f s → (Code.seq (.region id ops false) b).wp P Q a w) :
    ∀ (c : Code) (pre : List Code) (xs : List ACode), splitD c = some (pre, id, ops, b) → mapAll (prepCode P env n) pre = some xs →
    ∀ (f : Fr) (s : Hp) (a : Act) (w : World), Sim ([], []) n H0 s0 w0 f s a w → awpL ⟨P, kp⟩ xs K f s → c.wp P Q a w := by
  have step : ∀ (a b' : Code) (pre : List Code) (xs : List ACode), (∀ (pre : List Code) (xs : List ACode), splitD b' = some (pre, id, ops, b) → mapAll (prepCode P env n) pre = some xs →
      ∀ (f : Fr) (s : Hp) (a : Act) (w : World), Sim ([], []) n H0 s0 w0 f s a w → awpL ⟨P, kp⟩ xs K f s → b'.wp P Q a w) →
      (splitD b').map (fun r => (a :: r.1, r.2)) = some (pre, id, ops, b) → mapAll (prepCode P env n) pre = some xs →
      ∀ (f : Fr) (s : Hp) (ac : Act) (w : World), Sim ([], []) n H0 s0 w0 f s ac w → awpL ⟨P, kp⟩ xs K f s → (Code.seq a b').wp P Q ac w := by
    intro a b' pre xs ih h hx f s ac w hs ha
    obtain ⟨r, hr, hre⟩ := Option.map_eq_some_iff.1 h
    obtain ⟨pre', rest⟩ := r
    simp only [Prod.mk.injEq] at hre
    obtain ⟨rfl, rfl⟩ := hre
    simp only [mapAll] at hx
    split at hx
    case h_2 => cases hx
    rename_i y ys hy hys
    obtain rfl := Option.some.inj hx
    refine wp_seq (wp_mono (awp_sound hm (fun p hp => by simp at hp) a y hy _ f s ac w hs ha) fun e a' w' hq => ?_)
    cases e with
    | normal =>
      obtain ⟨f', s', hs', hK⟩ := hq
      exact ih pre' ys hr hys f' s' a' w' hs' hK
    | exit i => exact hQ (.exit i) a' w' hq
    | ret => exact hQ .ret a' w' hq
    | goto l => exact hq.elim
    | panic ch => exact hQ (.panic ch) a' w' hq
    | outgrown => exact hq.elim
  intro c
  induction c with
  | seq a b' iha ihb =>
    intro pre xs h hx f s ac w hs ha
    unfold splitD at h
    split at h
    · rename_i id' ops'
      split at h
      · simp only [Option.some.injEq, Prod.mk.injEq] at h
        obtain ⟨rfl, rfl, rfl, rfl⟩ := h
        simp only [mapAll, Option.some.injEq] at hx
        subst hx
        exact hD f s ac w hs ha
      · exact step _ b' pre xs ihb h hx f s ac w hs ha
    · exact step _ b' pre xs ihb h hx f s ac w hs ha
  | _ => intro pre xs h; simp [splitD] at h
theorem AC_defer (hm : P.follows .mixedOrders = true) {m : Nat} {g : FuncId} {F : DFunc} (hF : prepD P m g = some F) {args : List AV} {s : Hp} {R : AV → Hp → Prop} (hlen : args.length ≤ F.ntmps)
    (h : awpL (Ctx.of P) F.pre (dK P F.dops F.clo F.post F.results R F.free) (initF args) s) : AC P g args s R := by
  intro vs w H ha hh
  unfold prepD at hF
  split at hF
  case h_2 => cases hF
  rename_i fn hfn
  split at hF
  case h_2 => cases hF
  rename_i c hc
  split at hF
  case h_2 => cases hF
  rename_i pre id ops b rs hsp hrs
  split at hF
  case h_2 => cases hF
  rename_i dl od x hld
  split at hF
  case h_2 => cases hF
  rename_i xs ys y hxs hys hy
  split at hF
  case isFalse => cases hF
  rename_i hps
  obtain rfl := Option.some.inj hF
  simp only at hlen h
  refine calls_of_wp_defers hfn hc ?_
  have hvs : vs.size = args.length := ha.1
  have hs0 : Sim ([], []) fn.ntmps H s w (initF args) s { tmps := vs ++ Array.replicate (fn.ntmps - vs.size) undef, defers := [] } w := by
    refine ⟨by simp; omega, ⟨rfl, fun p hp => by simp at hp⟩, H, fun t => ?_, .refl hh⟩
    by_cases ht : t < args.length
    · have e1 : initF args t = args[t] := by simp [initF, List.getD, ht]
      rw [e1]
      have := ha.2 t args[t] (List.getElem?_eq_getElem ht)
      have e2 : (vs ++ Array.replicate (fn.ntmps - vs.size) undef).getD t undef = vs.getD t undef := by
        simp [Array.getElem?_append, hvs, ht]
      rw [e2]; exact this
    · have e1 : initF args t = .tup [] := by simp [initF, List.getD, ht]
      rw [e1]
      have e2 : (vs ++ Array.replicate (fn.ntmps - vs.size) undef).getD t undef = undef := by
        simp only [Array.getD_eq_getD_getElem?, Array.getElem?_append, hvs]
        rw [if_neg ht]
        simp only [Array.getElem?_replicate]
        split <;> rfl
      rw [e2]; exact RV.undef H
  -- what the result variables hold at the end
  have fin : ∀ (f : Fr) (a' : Act) (H1 : PH) (s1 : Hp) (w1 : World), Step H s w H1 s1 w1 → (∀ p ∈ rs, RV H1 (a'.tmps.getD p.1 undef) (f p.1)) → resK rs R f s1 →
      ∃ v, (results fn a'.tmps).run P w1 = .ok v w1 ∧ ∃ v' r H' s', Ending.returned v = .returned v' ∧ Step H s w H' s' w1 ∧ RV H' v' r ∧ R r s' := by
    rintro f a' H1 s1 w1 hst hf ⟨r, s2, hr, hsub, hR⟩
    obtain ⟨v, hrun, hv⟩ := run_results hf hst.holds hrs hr
    exact ⟨v, hrun, v, r, H1, s2, rfl, hst.drop hsub, hv, hR⟩
  refine spine_sound hm (kp := fun _ _ => False) (K := dK P ys x y rs R (freeOf m rs)) ?_ ?_ c pre xs hsp hxs _ _ _ _ hs0 h
  · intro e a' w' hq
    cases e with
    | normal => trivial
    | exit i => obtain ⟨_, _, _, hK⟩ := hq; exact hK.elim
    | ret =>
      obtain ⟨f, s1, ⟨_, hdf, H', hf, hst⟩, hK⟩ := hq
      show Leaves P fn a'.tmps _ a'.defers .returning w'
      rw [hdf.1]
      exact fin f a' H' s1 w' hst (fun p _ => hf p.1) hK
    | goto l => exact hq.elim
    | panic ch => obtain ⟨_, _, _, _, _, _, _, _, ⟨_, _, hk⟩, _⟩ := hq; exact hk.elim
    | outgrown => exact hq.elim
  · intro f s1 a1 w1 hs1 hK
    refine wp_seq (wp_region_list ?_)
    obtain ⟨hol, hodst, hog, cl, hocl, hcx, hca⟩ : ops.toList = dl ++ [od] ∧ od.dst = none ∧ od.guard = none ∧ ∃ cl, od.op = .defer cl ∧ cl.callee = .value x ∧ cl.args = #[] := by
      unfold lastD at hld
      split at hld
      case h_2 => cases hld
      rename_i o r hrev
      split at hld
      case h_2 => cases hld
      rename_i cl h1 h2 h3
      split at hld
      case h_2 => cases hld
      rename_i x' h4 h5
      simp only [Option.some.injEq, Prod.mk.injEq] at hld
      obtain ⟨rfl, rfl, rfl⟩ := hld
      refine ⟨?_, h2, h3, cl, h1, h4, Array.toList_inj.1 h5⟩
      have := congrArg List.reverse hrev
      simpa using this
    rw [hol]
    refine runL_soundT (D := ([], [])) (kp := fun _ _ => False) (fun p hp => by simp at hp) (K := fun f s => dferV P y rs R (freeOf m rs) (ev f x) f s) ?_ ?_ dl ys hys f s1 a1 w1 hs1 hK
    · intro f2 s2 a2 w2 hs2 hK2
      obtain ⟨hsz, hdf, H2, hf2, hst2⟩ := hs2
      unfold dferV at hK2
      split at hK2
      case h_2 => exact hK2.elim
      rename_i nn ds cs he
      obtain ⟨hok, hK2⟩ := hK2
      have hv := hf2.ev x hps.2
      rw [he] at hv
      generalize hav : a2.eval x = xv at hv
      cases hv with
      | clo _ ws us _ _ hw hW hl hR =>
        obtain ⟨fk, hfk, hbk, hnm⟩ : ∃ fk, P.funcs[nn]? = some fk ∧ fk.body.isSome ∧ fk.name ≠ "runtime.NumGoroutine" := by
          unfold callOk at hok
          split at hok
          · rename_i fk hfk
            simp only [Bool.and_eq_true, bne_iff_ne, ne_eq] at hok
            exact ⟨fk, hfk, hok.1, hok.2⟩
          · cases hok
        have hinv : ∀ w, (invoke (.fn (.func nn) us) ws).run P w = .ok (.enter nn (ws ++ us)) w := fun w => by
          cases hbb : fk.body with
          | none => simp [hbb] at hbk
          | some c => simp [invoke, callFunc, hfk, hnm, hbb]
        have hexec : (execOp a2.eval od).run P w2 = .ok (.defer { target := .fn (.func nn) us, args := ws }) w2 := by
          simp [execOp, hocl, resolve, hcx, hca, hav, Deferred.ofValue]
        have hargs : RVA H2 (ws ++ us) (ds ++ cs) := RVA.append ⟨hw, hW⟩ ⟨hl, hR⟩
        have hwant : Region.wanted od (yielded ops a2.tmps) = true := by simp [Region.wanted, hog]
        simp only [wpList, hwant, if_true]
        refine .inl ?_
        unfold Oper.wp
        rw [hexec]
        show b.wp P (bodyPostD P fn _) ({ a2 with defers := { target := .fn (.func nn) us, args := ws } :: a2.defers }.put od.dst undef) w2
        rw [hodst, hdf.1]
        have hS : Sim ([{ target := .fn (.func nn) us, args := ws }], ((rs.map (·.1)).filter fun t => !(freeOf m rs).contains t).map fun t => (t, a2.tmps.getD t undef)) fn.ntmps H2 s2 w2 f2 s2 { a2 with defers := [{ target := .fn (.func nn) us, args := ws }] } w2 := by
          refine ⟨hsz, ⟨rfl, fun p hp => ?_⟩, H2, hf2, .refl hst2.holds⟩
          obtain ⟨q, hq, rfl⟩ := List.mem_map.1 hp
          rfl
        refine wp_mono (awp_sound hm (fun p hp => by
          obtain ⟨q, hq, rfl⟩ := List.mem_map.1 hp
          exact hq) b y hy _ f2 s2 _ w2 hS hK2) fun e a' w' hq => ?_
        have ret : (∃ f3 s3, Sim ([{ target := .fn (.func nn) us, args := ws }], ((rs.map (·.1)).filter fun t => !(freeOf m rs).contains t).map fun t => (t, a2.tmps.getD t undef)) fn.ntmps H2 s2 w2 f3 s3 a' w' ∧ ACret P nn (ds ++ cs) s3 (resK rs R f3)) → Leaves P fn a'.tmps (fun e w' => ∃ v r H' s', e = .returned v ∧ Step H s w H' s' w' ∧ RV H' v r ∧ R r s') a'.defers .returning w' := by
          rintro ⟨f3, s3, ⟨_, hdf3, H3, hf3, hst3⟩, hret⟩
          rw [hdf3.1]
          refine leaves_cons (by simp) (hinv w') ((hret _ w' H3 (hargs.mono hst3.le) hst3.holds).mono ?_)
          rintro e u' w4 ⟨⟨v, rfl⟩, rfl, H4, s4, hst4, hres⟩
          exact fin f3 a' H4 s4 w4 ((hst2.trans hst3).trans hst4) (fun p _ => (hf3 p.1).mono hst4.le) hres
        cases e with
        | normal => exact ret hq
        | ret => exact ret hq
        | exit i => obtain ⟨_, _, _, hK⟩ := hq; exact hK.elim
        | goto l => exact hq.elim
        | panic ch =>
          obtain ⟨hdf3, v, r, H3, s3, rfl, hst3, hv3, ⟨s3', hsub3, hrec⟩, f4, hf4⟩ := hq
          show Leaves P fn a'.tmps _ a'.defers (.panicking _) w'
          rw [hdf3.1]
          have hst3' := hst3.drop hsub3
          refine leaves_cons (by simp) (hinv w') ((hrec _ w' H3 v (hargs.mono hst3.le) hv3 hst3'.holds).mono ?_)
          rintro e u' w4 ⟨⟨v4, rfl⟩, rfl, H4, s4, hst4, hres⟩
          refine fin (fun t => if (freeOf m rs).contains t = true then f4 t else f2 t) a' H4 s4 w4 ((hst2.trans hst3').trans hst4) (fun p hp => ?_) (hres _ fun t ht => by simp only [ht]; rfl)
          split
          · exact (hf4 p.1).mono hst4.le
          · rename_i hfr
            have hpv : a'.tmps.getD p.1 undef = a2.tmps.getD p.1 undef := hdf3.2 (p.1, a2.tmps.getD p.1 undef) (List.mem_map.2 ⟨p.1, List.mem_filter.2 ⟨List.mem_map.2 ⟨p, hp, rfl⟩, by simpa using hfr⟩, rfl⟩)
            rw [hpv]
            exact ((hf2 p.1).mono hst3.le).mono hst4.le
        | outgrown => exact hq.elim
    · intro a' v r H' s' w' _ _ _ hk
      obtain ⟨_, _, hk⟩ := hk
      exact hk.elim
end
def isRecover (o : Oper) : Bool :=
  match o.op with
  | .call c => match c.callee with
    | .builtin .recover => true
    | _ => false
  | _ => false
structure RFunc where
  ntmps : Nat
  nparams : Nat
  dst : Nat
  rest : List AOper
  post : ACode
def prepRec (P : Program) (m : Nat) (f : FuncId) : Option RFunc :=
  match P.funcs[f]? with
  | some fn => match fn.body with
    | some (.seq (.region id ops false) b) => match ops.toList with
      | o :: l => match o.dst with
        | some t => if isRecover o = true ∧ o.guard.isNone = true ∧ fn.results.toList.isEmpty = true ∧ t < fn.ntmps ∧ fn.params.size ≤ fn.ntmps then
            match mapAll (prepOper P ((envOf P (.seq (.region id ops false) b)).all m fn.ntmps) fn.ntmps ops) l, prepCode P ((envOf P (.seq (.region id ops false) b)).all m fn.ntmps) fn.ntmps b with
            | some ys, some y => some ⟨fn.ntmps, fn.params.size, t, ys, y⟩
            | _, _ => none
          else none
        | none => none
      | [] => none
    | _ => none
  | none => none
section
variable {P : Program} {kp : AV → Hp → Prop} {env : Env} {n : Nat} {H0 : PH} {s0 : Hp} {w0 : World} {D : List Deferred × List (Nat × Value)}
theorem runS_sound (hpin : ∀ p ∈ D.2, p.1 ∈ env.pins) {ops : Array Oper} {Q : Exit → Act → List Frame → World → Prop} {K : Fr → Hp → Prop} {cs : List Frame} (hQ : ∀ f s a w, Sim D n H0 s0 w0 f s a w → K f s → Q .normal a cs w) :
    ∀ (l : List Oper) (k : Nat) (ys : List AOper), (∀ j, l[j]? = ops[k + j]?) → mapAll (prepOper P env n ops) l = some ys →
    ∀ (f : Fr) (s : Hp) (a : Act) (w : World), Sim D n H0 s0 w0 f s a w → runL ⟨P, fun _ _ => False⟩ ys K f s → wpOpsS P ops Q (List.range' k l.length) a cs w
  | [], k, ys, hl, h, f, s, a, w, hs, hr => by
    simp only [mapAll, Option.some.injEq] at h; subst h
    exact hQ f s a w hs hr
  | o :: l, k, ys, hl, h, f, s, a, w, hs, hr => by
    simp only [mapAll] at h
    split at h
    case h_2 => cases h
    rename_i y ys' hy hys
    obtain rfl := Option.some.inj h
    have h0 : ops[k]? = some o := by simpa using (hl 0).symm
    have ih := runS_sound hpin hQ l (k + 1) ys' (fun j => by have := hl (j + 1); simpa [Nat.add_assoc, Nat.add_comm 1 j] using this) hys
    have := oper_sound hpin hy hs hr (fun e a w => Q e a cs w) (fun v r H' s' w' _ _ _ hk => by obtain ⟨_, _, hk⟩ := hk; exact hk.elim)
    simp only [List.length_cons, List.range'_succ, wpOpsS, h0]
    split
    · rename_i hw
      rw [if_pos hw] at this
      have := Oper.wp_mono (fun a' w' ⟨f', s', hs', hr'⟩ => ih f' s' a' w' hs' hr') this
      unfold Oper.wp at this
      generalize (execOp a.eval o).run P w = r at this
      split
      · exact this.elim
      · exact this
    · rename_i hw
      rw [if_neg hw] at this
      obtain ⟨f', s', hs', hr'⟩ := this
      exact ih f' s' _ w hs' hr'
def recK (R : Hp → Prop) : Ex → Fr → Hp → Prop
  | .exit _, _, _ => False
  | _, _, s => ∃ s2 : Hp, s2.sub s ∧ R s2
theorem rec_sound (hm : P.follows .mixedOrders = true) {m : Nat} {g : FuncId} {F : RFunc} (hF : prepRec P m g = some F) {args : List AV} {s : Hp} {R : Hp → Prop} (hlen : args.length ≤ F.ntmps) {r : AV} {u u' : FrameMode} {vs : Array Value} {w : World} {H : PH} {v : Value}
    (ha : RVA H vs args) (hh : Holds H s w) (hv : RV H v r)
    (hu : ∀ (c₀ : Frame) (cs : List Frame), c₀.mode = u → (match recoverD (c₀ :: cs) with | some (x, cs') => x = v ∧ cs' = { c₀ with mode := u' } :: cs | none => v = .nilIface ∧ u' = u))
    (h : runL ⟨P, fun _ _ => False⟩ F.rest (awp ⟨P, fun _ _ => False⟩ F.post (recK R)) (putF (initF args) (some F.dst) r) s) :
    CallsD P g vs u w fun e u2 w' => (∃ x, e = .returned x) ∧ u2 = u' ∧ ∃ H' s', Step H s w H' s' w' ∧ R s' := by
  unfold prepRec at hF
  split at hF
  case h_2 => cases hF
  rename_i fn hfn
  split at hF
  case h_2 => cases hF
  rename_i id ops b hb
  split at hF
  case h_2 => cases hF
  rename_i o l hol
  split at hF
  case h_2 => cases hF
  rename_i t hdst
  split at hF
  case isFalse => cases hF
  rename_i hc
  obtain ⟨hrec, hg, hres, ht, hps⟩ := hc
  split at hF
  case h_2 => cases hF
  rename_i ys y hys hy
  obtain rfl := Option.some.inj hF
  simp only at hlen h
  refine callsD_of_wpS hfn hb fun c₀ cs hm0 => ?_
  have hvs : vs.size = args.length := ha.1
  have hs0 : Sim ([], []) fn.ntmps H s w (initF args) s { tmps := vs ++ Array.replicate (fn.ntmps - vs.size) undef, defers := [] } w := by
    refine ⟨by simp; omega, ⟨rfl, fun p hp => by simp at hp⟩, H, fun t => ?_, .refl hh⟩
    by_cases ht : t < args.length
    · have e1 : initF args t = args[t] := by simp [initF, List.getD, ht]
      rw [e1]
      have := ha.2 t args[t] (List.getElem?_eq_getElem ht)
      have e2 : (vs ++ Array.replicate (fn.ntmps - vs.size) undef).getD t undef = vs.getD t undef := by
        simp [Array.getElem?_append, hvs, ht]
      rw [e2]; exact this
    · have e1 : initF args t = .tup [] := by simp [initF, List.getD, ht]
      rw [e1]
      have e2 : (vs ++ Array.replicate (fn.ntmps - vs.size) undef).getD t undef = undef := by
        simp only [Array.getD_eq_getD_getElem?, Array.getElem?_append, hvs]
        rw [if_neg ht]
        simp only [Array.getElem?_replicate]
        split <;> rfl
      rw [e2]; exact RV.undef H
  obtain ⟨hsz, hdf, H1, hf, hst⟩ := hs0
  generalize ({ tmps := vs ++ Array.replicate (fn.ntmps - vs.size) undef, defers := [] } : Act) = a at *
  have hs1 : Sim ([], []) fn.ntmps H s w (putF (initF args) (some t) r) s (a.put (some t) v) w :=
    ⟨by rw [size_put]; exact hsz, hdf.put (l := []) (fun p hp => by simp at hp) rfl, H1, hf.put (some t) (fun x hx => by obtain rfl := Option.some.inj hx; rw [hsz]; exact ht) (hv.mono hst.le), hst⟩
  refine wpS_seq (wpS_region ?_)
  have hsize : ops.size = l.length + 1 := by rw [← Array.length_toList, hol]; rfl
  have h0 : ops[0]? = some o := by rw [← Array.getElem?_toList, hol]; rfl
  have hl : ∀ j, l[j]? = ops[1 + j]? := fun j => by rw [← Array.getElem?_toList, hol, Nat.add_comm]; rfl
  rw [hsize, List.range_eq_range', List.range'_succ]
  have hwant : Region.wanted o (yielded ops a.tmps) = true := by
    have : o.guard = none := by simpa using hg
    simp [Region.wanted, this]
  have hexec : (execOp a.eval o).run P w = .ok .recover w := by
    unfold isRecover at hrec
    split at hrec
    case h_2 => cases hrec
    rename_i cl hcl
    split at hrec
    case h_2 => cases hrec
    rename_i hbi
    simp [execOp, hcl, resolve, hbi, invoke, builtin]
  have goal : ∀ cs' : List Frame, cs' = { c₀ with mode := u' } :: cs → wpOpsS P ops (Exit.thenS (b.wpS P (bodyPostS P fn c₀ cs fun e u2 w' => (∃ x, e = .returned x) ∧ u2 = u' ∧ ∃ H' s', Step H s w H' s' w' ∧ R s')) (bodyPostS P fn c₀ cs fun e u2 w' => (∃ x, e = .returned x) ∧ u2 = u' ∧ ∃ H' s', Step H s w H' s' w' ∧ R s')) (List.range' 1 l.length) (a.put (some t) v) cs' w := by
    rintro _ rfl
    refine runS_sound (D := ([], [])) (fun p hp => by simp at hp) (fun f2 s2 a2 w2 hs2 hK2 => ?_) l 1 ys hl hys _ _ _ _ hs1 h
    refine wpS_of_wp (wp_mono (awp_sound hm (fun p hp => by simp at hp) b y hy _ f2 s2 a2 w2 hs2 hK2) fun e a' w' hq => ?_)
    have hres' : (results fn a'.tmps).run P w' = .ok (.tuple #[]) w' := by
      have hr : fn.results = #[] := by
        have : fn.results.toList = [] := by simpa using hres
        exact Array.toList_inj.1 this
      unfold results
      rw [hr]
      simp
    have fin : (∃ f s1, Sim ([], []) fn.ntmps H s w f s1 a' w' ∧ ∃ s2 : Hp, s2.sub s1 ∧ R s2) → a'.defers = [] ∧ ∃ u2, ({ c₀ with mode := u' } :: cs : List Frame) = { c₀ with mode := u2 } :: cs ∧ ∃ v, (results fn a'.tmps).run P w' = .ok v w' ∧ ((∃ x, Ending.returned v = .returned x) ∧ u2 = u' ∧ ∃ H' s', Step H s w H' s' w' ∧ R s') := by
      rintro ⟨f3, s3, ⟨_, hdf3, H3, hf3, hst3⟩, s4, hsub, hR⟩
      exact ⟨hdf3.1, u', rfl, _, hres', ⟨_, rfl⟩, rfl, H3, s4, hst3.drop hsub, hR⟩
    cases e with
    | normal => exact fin hq
    | ret => exact fin hq
    | exit i => obtain ⟨_, _, _, hK⟩ := hq; exact hK.elim
    | goto l => exact hq.elim
    | panic ch => obtain ⟨_, _, _, _, _, _, _, _, ⟨_, _, hk⟩, _⟩ := hq; exact hk.elim
    | outgrown => exact hq.elim
  unfold wpOpsS
  simp only [h0, hwant, if_true, hexec, hdst]
  have := hu c₀ cs hm0
  split
  · rename_i x cs' hrd
    rw [hrd] at this
    obtain ⟨rfl, rfl⟩ := this
    exact goal _ rfl
  · rename_i hrd
    rw [hrd] at this
    obtain ⟨rfl, rfl⟩ := this
    exact goal _ (by rw [← hm0])
theorem ACrec_of (hm : P.follows .mixedOrders = true) {m : Nat} {g : FuncId} {F : RFunc} (hF : prepRec P m g = some F) {args : List AV} {s : Hp} {R : Hp → Prop} (hlen : args.length ≤ F.ntmps) {r : AV}
    (h : runL ⟨P, fun _ _ => False⟩ F.rest (awp ⟨P, fun _ _ => False⟩ F.post (recK R)) (putF (initF args) (some F.dst) r) s) : ACrec P g args r s R := by
  intro vs w H v ha hv hh
  refine rec_sound hm hF hlen ha hh hv (fun c₀ cs hc => ?_) h
  simp [recoverD, hc]
theorem ACret_of (hm : P.follows .mixedOrders = true) {m : Nat} {g : FuncId} {F : RFunc} (hF : prepRec P m g = some F) {args : List AV} {s : Hp} {R : Hp → Prop} (hlen : args.length ≤ F.ntmps)
    (h : runL ⟨P, fun _ _ => False⟩ F.rest (awp ⟨P, fun _ _ => False⟩ F.post (recK R)) (putF (initF args) (some F.dst) (.v .nilIface)) s) : ACret P g args s R := by
  intro vs w H ha hh
  refine rec_sound hm hF hlen ha hh (.v .nilIface rfl) (fun c₀ cs hc => ?_) h
  simp [recoverD, hc]
end
end Go.Av
set_option maxRecDepth 100000
namespace Go.Proofs.YtgfbealjkdhdbaaGreatDoor
open Go Go.Av
theorem hm : Tryz.prog.follows .mixedOrders = true := by kernel_rfl
def F4 : AFunc where
  ntmps := 77
  nparams := 1
  results := [(2, none)]
  code :=
(.seq
(.plain (
⟨(some 2), .mv (.const (.bool false)), none⟩ ::
[]))
(.seq
(.seq
(.plain (
⟨(some 13), .callF 9 [], none⟩ ::
⟨(some 14), .un .not (.tmp 13), none⟩ ::
[]))
(.cond (.tmp 14)
(.seq
(.plain (
⟨(some 2), .mv (.const (.bool false)), none⟩ ::
[]))
.ret)
.skip))
(.seq
(.seq
(.plain (
⟨(some 15), .mv (.tmp 0), none⟩ ::
⟨(some 16), .lenT (.tmp 15), none⟩ ::
⟨(some 17), .bin .gtr (.tmp 16) (.const (.int .i64 400)), none⟩ ::
[]))
(.cond (.tmp 17)
(.seq
(.plain (
⟨(some 2), .mv (.const (.bool true)), none⟩ ::
[]))
.ret)
.skip))
(.seq
(.plain (
⟨(some 19), .mv (.tmp 0), none⟩ ::
⟨(some 20), .callF 10 [(.tmp 19)], none⟩ ::
⟨(some 18), .mv (.tmp 20), none⟩ ::
⟨(some 21), .ext (.tmp 18) 0, none⟩ ::
⟨(some 22), .ext (.tmp 18) 1, none⟩ ::
⟨(some 3), .mv (.tmp 21), none⟩ ::
⟨(some 4), .mv (.tmp 22), none⟩ ::
[]))
(.seq
(.seq
(.plain (
⟨(some 23), .mv (.tmp 4), none⟩ ::
⟨(some 24), .bin .neq (.tmp 23) (.const (.int .i64 0)), none⟩ ::
[]))
(.cond (.tmp 24)
(.seq
(.plain (
⟨(some 2), .mv (.const (.bool true)), none⟩ ::
[]))
.ret)
.skip))
(.seq
(.plain (
⟨(some 25), .mv (.tmp 3), none⟩ ::
⟨(some 26), .callF 11 [(.tmp 25)], none⟩ ::
⟨(some 5), .mv (.tmp 26), none⟩ ::
[]))
(.seq
(.plain (
⟨(some 6), .mv (.const (.slice none 0 0)), none⟩ ::
[]))
(.seq
(.seq
(.plain (
⟨(some 7), .mv (.const (.int .i64 0)), none⟩ ::
[]))
(.block 0
(.loop
(.seq
(.seq
(.plain (
⟨(some 27), .mv (.tmp 7), none⟩ ::
⟨(some 28), .mv (.tmp 5), none⟩ ::
⟨(some 29), .lenT (.tmp 28), none⟩ ::
⟨(some 30), .bin .lss (.tmp 27) (.tmp 29), none⟩ ::
[]))
(.cond (.tmp 30)
.skip
(.exit 0)))
(.seq
(.block 1
(.seq
(.plain (
⟨(some 33), .mv (.tmp 5), none⟩ ::
⟨(some 34), .mv (.tmp 7), none⟩ ::
⟨(some 35), .idxS (.tmp 33) (.tmp 34), none⟩ ::
⟨(some 8), .mv (.tmp 35), none⟩ ::
[]))
(.seq
(.seq
(.plain (
⟨(some 36), .mv (.tmp 8), none⟩ ::
⟨(some 37), .bin .geq (.tmp 36) (.const (.int .u8 97)), none⟩ ::
⟨(some 38), .mv (.tmp 37), none⟩ ::
⟨(some 39), .mv (.tmp 8), (some (38, true))⟩ ::
⟨(some 40), .bin .leq (.tmp 39) (.const (.int .u8 122)), (some (38, true))⟩ ::
⟨(some 41), .pick (.tmp 38) (.tmp 40) (.const (.bool false)), none⟩ ::
[]))
(.cond (.tmp 41)
(.plain (
⟨(some 42), .mv (.tmp 8), none⟩ ::
⟨(some 43), .bin .sub (.tmp 42) (.const (.int .u8 32)), none⟩ ::
⟨(some 8), .mv (.tmp 43), none⟩ ::
[]))
.skip))
(.seq
(.plain (
⟨(some 44), .mv (.tmp 6), none⟩ ::
⟨(some 45), .mv (.tmp 8), none⟩ ::
⟨(some 46), .bsl 1 [(.tmp 45)], none⟩ ::
⟨(some 47), .app 1 1 (.tmp 44) (.tmp 46), none⟩ ::
⟨(some 6), .mv (.tmp 47), none⟩ ::
[]))
(.seq
(.plain (
⟨(some 48), .mv (.tmp 8), none⟩ ::
⟨(some 49), .bin .eql (.tmp 48) (.const (.int .u8 32)), none⟩ ::
[]))
(.cond (.tmp 49)
(.plain (
⟨(some 50), .mv (.tmp 6), none⟩ ::
⟨(some 51), .bsl 1 [(.const (.int .u8 10))], none⟩ ::
⟨(some 52), .app 1 1 (.tmp 50) (.tmp 51), none⟩ ::
⟨(some 6), .mv (.tmp 52), none⟩ ::
[]))
.skip))))))
(.plain (
⟨(some 31), .mv (.tmp 7), none⟩ ::
⟨(some 32), .bin .add (.tmp 31) (.const (.int .i64 1)), none⟩ ::
⟨(some 7), .mv (.tmp 32), none⟩ ::
[])))))))
(.seq
(.seq
(.plain (
⟨(some 53), .mv (.tmp 6), none⟩ ::
⟨(some 54), .len (.tmp 53), none⟩ ::
⟨(some 55), .bin .gtr (.tmp 54) (.const (.int .i64 1000)), none⟩ ::
[]))
(.cond (.tmp 55)
(.seq
(.plain (
⟨(some 2), .mv (.const (.bool true)), none⟩ ::
[]))
.ret)
.skip))
(.seq
(.plain (
⟨(some 57), .mv (.tmp 0), none⟩ ::
⟨(some 58), .callF 12 [(.tmp 57)], none⟩ ::
⟨(some 56), .mv (.tmp 58), none⟩ ::
⟨(some 59), .ext (.tmp 56) 0, none⟩ ::
⟨(some 60), .ext (.tmp 56) 1, none⟩ ::
⟨(some 9), .mv (.tmp 59), none⟩ ::
⟨(some 10), .mv (.tmp 60), none⟩ ::
[]))
(.seq
(.plain (
⟨(some 62), .mv (.tmp 6), none⟩ ::
⟨(some 63), .b2s (.tmp 62), none⟩ ::
⟨(some 64), .callF 12 [(.tmp 63)], none⟩ ::
⟨(some 61), .mv (.tmp 64), none⟩ ::
⟨(some 65), .ext (.tmp 61) 0, none⟩ ::
⟨(some 66), .ext (.tmp 61) 1, none⟩ ::
⟨(some 11), .mv (.tmp 65), none⟩ ::
⟨(some 12), .mv (.tmp 66), none⟩ ::
[]))
(.seq
(.plain (
⟨(some 67), .mv (.tmp 10), none⟩ ::
⟨(some 68), .mv (.tmp 12), none⟩ ::
⟨(some 69), .bin .eql (.tmp 67) (.tmp 68), none⟩ ::
⟨(some 70), .mv (.tmp 69), none⟩ ::
⟨(some 71), .mv (.tmp 9), (some (70, true))⟩ ::
⟨(some 72), .callF 14 [(.tmp 71)], (some (70, true))⟩ ::
⟨(some 73), .mv (.tmp 11), (some (70, true))⟩ ::
⟨(some 74), .callF 14 [(.tmp 73)], (some (70, true))⟩ ::
⟨(some 75), .callF 13 [(.tmp 72), (.tmp 74)], (some (70, true))⟩ ::
⟨(some 76), .pick (.tmp 70) (.tmp 75) (.const (.bool false)), none⟩ ::
⟨(some 2), .mv (.tmp 76), none⟩ ::
[]))
.ret))))))))))))
theorem prep4 : prepFunc Tryz.prog 0 4 = some F4 := by kernel_rfl
def F9 : AFunc where
  ntmps := 60
  nparams := 0
  results := [(0, none)]
  code :=
(.seq
(.plain (
⟨(some 0), .mv (.const (.bool false)), none⟩ ::
[]))
(.seq
(.plain (
⟨(some 12), .callF 12 [(.const (.string ⟨#[83, 69, 76, 69, 67, 84, 32, 42, 32, 70, 82, 79, 77, 32, 116, 32, 87, 72, 69, 82, 69, 32, 97, 32, 62, 61, 32, 49, 32, 65, 78, 68, 32, 98, 32, 66, 69, 84, 87, 69, 69, 78, 32, 50, 32, 65, 78, 68, 32, 51, 32, 79, 82, 68, 69, 82, 32, 66, 89, 32, 97, 32, 68, 69, 83, 67, 32, 76, 73, 77, 73, 84, 32, 53]⟩))], none⟩ ::
⟨(some 11), .mv (.tmp 12), none⟩ ::
⟨(some 13), .ext (.tmp 11) 0, none⟩ ::
⟨(some 14), .ext (.tmp 11) 1, none⟩ ::
⟨(some 1), .mv (.tmp 13), none⟩ ::
⟨(some 2), .mv (.tmp 14), none⟩ ::
[]))
(.seq
(.plain (
⟨(some 16), .mv (.tmp 1), none⟩ ::
⟨(some 17), .callF 24 [(.tmp 16)], none⟩ ::
⟨(some 15), .mv (.tmp 17), none⟩ ::
⟨(some 18), .ext (.tmp 15) 0, none⟩ ::
⟨(some 19), .ext (.tmp 15) 1, none⟩ ::
⟨(some 3), .mv (.tmp 18), none⟩ ::
⟨(some 4), .mv (.tmp 19), none⟩ ::
[]))
(.seq
(.plain (
⟨(some 21), .callF 12 [(.const (.string ⟨#[105, 110, 115, 101, 114, 116, 32, 105, 110, 116, 111, 32, 116, 32, 118, 97, 108, 117, 101, 115, 32, 40, 49, 44, 32, 50, 41, 44, 32, 40, 51, 44, 32, 52, 41]⟩))], none⟩ ::
⟨(some 20), .mv (.tmp 21), none⟩ ::
⟨(some 22), .ext (.tmp 20) 0, none⟩ ::
⟨(some 23), .ext (.tmp 20) 1, none⟩ ::
⟨(some 5), .mv (.tmp 22), none⟩ ::
⟨(some 6), .mv (.tmp 23), none⟩ ::
[]))
(.seq
(.plain (
⟨(some 25), .callF 12 [(.const (.string ⟨#[115, 101, 108, 101, 99, 116, 32, 42, 32, 102, 114, 111, 109, 32, 102, 114, 111, 109]⟩))], none⟩ ::
⟨(some 24), .mv (.tmp 25), none⟩ ::
⟨(some 26), .ext (.tmp 24) 0, none⟩ ::
⟨(some 27), .ext (.tmp 24) 1, none⟩ ::
⟨(some 7), .mv (.tmp 26), none⟩ ::
⟨(some 8), .mv (.tmp 27), none⟩ ::
[]))
(.seq
(.plain (
⟨(some 29), .callF 12 [(.const (.string ⟨#[115, 101, 108, 101, 99, 116, 32, 42, 32, 102, 114, 111, 109, 32, 116, 32, 108, 105, 109, 105, 116, 32, 45, 49]⟩))], none⟩ ::
⟨(some 28), .mv (.tmp 29), none⟩ ::
⟨(some 30), .ext (.tmp 28) 0, none⟩ ::
⟨(some 31), .ext (.tmp 28) 1, none⟩ ::
⟨(some 9), .mv (.tmp 30), none⟩ ::
⟨(some 10), .mv (.tmp 31), none⟩ ::
[]))
(.seq
(.plain (
⟨(some 32), .mv (.tmp 2), none⟩ ::
⟨(some 33), .bin .eql (.tmp 32) (.const (.int .i64 0)), none⟩ ::
⟨(some 34), .mv (.tmp 33), none⟩ ::
⟨(some 35), .mv (.tmp 4), (some (34, true))⟩ ::
⟨(some 36), .pick (.tmp 34) (.tmp 35) (.const (.bool false)), none⟩ ::
⟨(some 37), .mv (.tmp 36), none⟩ ::
⟨(some 38), .mv (.tmp 3), (some (37, true))⟩ ::
⟨(some 39), .bin .eql (.tmp 38) (.const (.string ⟨#[115, 101, 108, 101, 99, 116, 32, 42, 32, 102, 114, 111, 109, 32, 116, 32, 119, 104, 101, 114, 101, 32, 97, 32, 62, 61, 32, 49, 32, 97, 110, 100, 32, 98, 32, 98, 101, 116, 119, 101, 101, 110, 32, 50, 32, 97, 110, 100, 32, 51, 32, 111, 114, 100, 101, 114, 32, 98, 121, 32, 97, 32, 100, 101, 115, 99, 32, 108, 105, 109, 105, 116, 32, 53]⟩)), (some (37, true))⟩ ::
⟨(some 40), .pick (.tmp 37) (.tmp 39) (.const (.bool false)), none⟩ ::
⟨(some 41), .mv (.tmp 40), none⟩ ::
⟨(some 42), .mv (.tmp 6), (some (41, true))⟩ ::
⟨(some 43), .bin .eql (.tmp 42) (.const (.int .i64 0)), (some (41, true))⟩ ::
⟨(some 44), .pick (.tmp 41) (.tmp 43) (.const (.bool false)), none⟩ ::
⟨(some 45), .mv (.tmp 44), none⟩ ::
⟨(some 46), .mv (.tmp 5), (some (45, true))⟩ ::
⟨(some 47), .callF 14 [(.tmp 46)], (some (45, true))⟩ ::
⟨(some 48), .fld false 3 1 (.tmp 47), (some (45, true))⟩ ::
⟨(some 49), .len (.tmp 48), (some (45, true))⟩ ::
⟨(some 50), .bin .eql (.tmp 49) (.const (.int .i64 2)), (some (45, true))⟩ ::
⟨(some 51), .pick (.tmp 45) (.tmp 50) (.const (.bool false)), none⟩ ::
⟨(some 52), .mv (.tmp 51), none⟩ ::
⟨(some 53), .mv (.tmp 8), (some (52, true))⟩ ::
⟨(some 54), .bin .eql (.tmp 53) (.const (.int .i64 2)), (some (52, true))⟩ ::
⟨(some 55), .pick (.tmp 52) (.tmp 54) (.const (.bool false)), none⟩ ::
⟨(some 56), .mv (.tmp 55), none⟩ ::
⟨(some 57), .mv (.tmp 10), (some (56, true))⟩ ::
⟨(some 58), .bin .eql (.tmp 57) (.const (.int .i64 7)), (some (56, true))⟩ ::
⟨(some 59), .pick (.tmp 56) (.tmp 58) (.const (.bool false)), none⟩ ::
⟨(some 0), .mv (.tmp 59), none⟩ ::
[]))
.ret)))))))
theorem prep9 : prepFunc Tryz.prog 0 9 = some F9 := by kernel_rfl
def F10 : AFunc where
  ntmps := 257
  nparams := 1
  results := [(2, none), (3, none)]
  code :=
(.seq
(.plain (
⟨(some 2), .mv (.const (.slice none 0 0)), none⟩ ::
⟨(some 3), .mv (.const (.int .i64 0)), none⟩ ::
[]))
(.seq
(.seq
(.plain (
⟨(some 16), .mv (.tmp 0), none⟩ ::
⟨(some 17), .lenT (.tmp 16), none⟩ ::
⟨(some 18), .bin .gtr (.tmp 17) (.const (.int .i64 1000)), none⟩ ::
[]))
(.cond (.tmp 18)
(.seq
(.plain (
⟨(some 2), .mv (.const (.slice none 0 0)), none⟩ ::
⟨(some 3), .mv (.const (.int .i64 10)), none⟩ ::
[]))
.ret)
.skip))
(.seq
(.plain (
⟨(some 4), .mv (.const (.slice none 0 0)), none⟩ ::
[]))
(.seq
(.plain (
⟨(some 5), .mv (.const (.int .i64 0)), none⟩ ::
[]))
(.seq
(.block 0
(.loop
(.seq
(.seq
(.plain (
⟨(some 19), .mv (.tmp 5), none⟩ ::
⟨(some 20), .mv (.tmp 0), none⟩ ::
⟨(some 21), .lenT (.tmp 20), none⟩ ::
⟨(some 22), .bin .lss (.tmp 19) (.tmp 21), none⟩ ::
[]))
(.cond (.tmp 22)
.skip
(.exit 0)))
(.block 1
(.seq
(.seq
(.plain (
⟨(some 23), .mv (.tmp 0), none⟩ ::
⟨(some 24), .mv (.tmp 5), none⟩ ::
⟨(some 25), .idxS (.tmp 23) (.tmp 24), none⟩ ::
⟨(some 26), .callF 25 [(.tmp 25)], none⟩ ::
[]))
(.cond (.tmp 26)
(.seq
(.plain (
⟨(some 27), .mv (.tmp 5), none⟩ ::
⟨(some 28), .bin .add (.tmp 27) (.const (.int .i64 1)), none⟩ ::
⟨(some 5), .mv (.tmp 28), none⟩ ::
[]))
(.exit 1))
.skip))
(.seq
(.seq
(.plain (
⟨(some 29), .mv (.tmp 0), none⟩ ::
⟨(some 30), .mv (.tmp 5), none⟩ ::
⟨(some 31), .idxS (.tmp 29) (.tmp 30), none⟩ ::
⟨(some 32), .bin .eql (.tmp 31) (.const (.int .u8 45)), none⟩ ::
⟨(some 33), .mv (.tmp 32), none⟩ ::
⟨(some 34), .mv (.tmp 5), (some (33, true))⟩ ::
⟨(some 35), .bin .add (.tmp 34) (.const (.int .i64 1)), (some (33, true))⟩ ::
⟨(some 36), .mv (.tmp 0), (some (33, true))⟩ ::
⟨(some 37), .lenT (.tmp 36), (some (33, true))⟩ ::
⟨(some 38), .bin .lss (.tmp 35) (.tmp 37), (some (33, true))⟩ ::
⟨(some 39), .pick (.tmp 33) (.tmp 38) (.const (.bool false)), none⟩ ::
⟨(some 40), .mv (.tmp 39), none⟩ ::
⟨(some 41), .mv (.tmp 0), (some (40, true))⟩ ::
⟨(some 42), .mv (.tmp 5), (some (40, true))⟩ ::
⟨(some 43), .bin .add (.tmp 42) (.const (.int .i64 1)), (some (40, true))⟩ ::
⟨(some 44), .idxS (.tmp 41) (.tmp 43), (some (40, true))⟩ ::
⟨(some 45), .bin .eql (.tmp 44) (.const (.int .u8 45)), (some (40, true))⟩ ::
⟨(some 46), .pick (.tmp 40) (.tmp 45) (.const (.bool false)), none⟩ ::
[]))
(.cond (.tmp 46)
(.seq
(.block 2
(.loop
(.seq
(.seq
(.plain (
⟨(some 47), .mv (.tmp 5), none⟩ ::
⟨(some 48), .mv (.tmp 0), none⟩ ::
⟨(some 49), .lenT (.tmp 48), none⟩ ::
⟨(some 50), .bin .lss (.tmp 47) (.tmp 49), none⟩ ::
⟨(some 51), .mv (.tmp 50), none⟩ ::
⟨(some 52), .mv (.tmp 0), (some (51, true))⟩ ::
⟨(some 53), .mv (.tmp 5), (some (51, true))⟩ ::
⟨(some 54), .idxS (.tmp 52) (.tmp 53), (some (51, true))⟩ ::
⟨(some 55), .bin .neq (.tmp 54) (.const (.int .u8 10)), (some (51, true))⟩ ::
⟨(some 56), .pick (.tmp 51) (.tmp 55) (.const (.bool false)), none⟩ ::
[]))
(.cond (.tmp 56)
.skip
(.exit 2)))
(.block 3
(.plain (
⟨(some 57), .mv (.tmp 5), none⟩ ::
⟨(some 58), .bin .add (.tmp 57) (.const (.int .i64 1)), none⟩ ::
⟨(some 5), .mv (.tmp 58), none⟩ ::
[]))))))
(.exit 1))
.skip))
(.seq
(.plain (
⟨(some 59), .mv (.tmp 5), none⟩ ::
⟨(some 6), .mv (.tmp 59), none⟩ ::
[]))
(.seq
(.seq
(.plain (
⟨(some 60), .mv (.tmp 0), none⟩ ::
⟨(some 61), .mv (.tmp 5), none⟩ ::
⟨(some 62), .idxS (.tmp 60) (.tmp 61), none⟩ ::
⟨(some 63), .callF 26 [(.tmp 62)], none⟩ ::
[]))
(.cond (.tmp 63)
(.seq
(.plain (
⟨(some 7), .mv (.const (.slice none 0 0)), none⟩ ::
[]))
(.seq
(.block 4
(.loop
(.seq
(.seq
(.plain (
⟨(some 64), .mv (.tmp 5), none⟩ ::
⟨(some 65), .mv (.tmp 0), none⟩ ::
⟨(some 66), .lenT (.tmp 65), none⟩ ::
⟨(some 67), .bin .lss (.tmp 64) (.tmp 66), none⟩ ::
⟨(some 68), .mv (.tmp 67), none⟩ ::
⟨(some 69), .mv (.tmp 0), (some (68, true))⟩ ::
⟨(some 70), .mv (.tmp 5), (some (68, true))⟩ ::
⟨(some 71), .idxS (.tmp 69) (.tmp 70), (some (68, true))⟩ ::
⟨(some 72), .callF 27 [(.tmp 71)], (some (68, true))⟩ ::
⟨(some 73), .pick (.tmp 68) (.tmp 72) (.const (.bool false)), none⟩ ::
[]))
(.cond (.tmp 73)
.skip
(.exit 4)))
(.block 5
(.seq
(.plain (
⟨(some 74), .mv (.tmp 0), none⟩ ::
⟨(some 75), .mv (.tmp 5), none⟩ ::
⟨(some 76), .idxS (.tmp 74) (.tmp 75), none⟩ ::
⟨(some 8), .mv (.tmp 76), none⟩ ::
[]))
(.seq
(.seq
(.plain (
⟨(some 77), .mv (.tmp 8), none⟩ ::
⟨(some 78), .bin .geq (.tmp 77) (.const (.int .u8 65)), none⟩ ::
⟨(some 79), .mv (.tmp 78), none⟩ ::
⟨(some 80), .mv (.tmp 8), (some (79, true))⟩ ::
⟨(some 81), .bin .leq (.tmp 80) (.const (.int .u8 90)), (some (79, true))⟩ ::
⟨(some 82), .pick (.tmp 79) (.tmp 81) (.const (.bool false)), none⟩ ::
[]))
(.cond (.tmp 82)
(.plain (
⟨(some 83), .mv (.tmp 8), none⟩ ::
⟨(some 84), .bin .add (.tmp 83) (.const (.int .u8 32)), none⟩ ::
⟨(some 8), .mv (.tmp 84), none⟩ ::
[]))
.skip))
(.seq
(.plain (
⟨(some 85), .mv (.tmp 7), none⟩ ::
⟨(some 86), .mv (.tmp 8), none⟩ ::
⟨(some 87), .bsl 1 [(.tmp 86)], none⟩ ::
⟨(some 88), .app 1 1 (.tmp 85) (.tmp 87), none⟩ ::
⟨(some 7), .mv (.tmp 88), none⟩ ::
[]))
(.plain (
⟨(some 89), .mv (.tmp 5), none⟩ ::
⟨(some 90), .bin .add (.tmp 89) (.const (.int .i64 1)), none⟩ ::
⟨(some 5), .mv (.tmp 90), none⟩ ::
[])))))))))
(.seq
(.plain (
⟨(some 91), .mv (.tmp 4), none⟩ ::
⟨(some 92), .mv (.tmp 7), none⟩ ::
⟨(some 93), .b2s (.tmp 92), none⟩ ::
⟨(some 94), .mv (.tmp 6), none⟩ ::
⟨(some 95), .bld [(.v (.int .u8 0)), (.v (.string ⟨#[]⟩)), (.v (.int .i64 0)), (.v (.int .i64 0))] [(0, 1, (.const (.int .u8 1))), (1, 1, (.tmp 93)), (3, 1, (.tmp 94))], none⟩ ::
⟨(some 96), .bsl 4 [(.tmp 95)], none⟩ ::
⟨(some 97), .app 4 40 (.tmp 91) (.tmp 96), none⟩ ::
⟨(some 4), .mv (.tmp 97), none⟩ ::
[]))
(.exit 1))))
.skip))
(.seq
(.seq
(.plain (
⟨(some 98), .mv (.tmp 0), none⟩ ::
⟨(some 99), .mv (.tmp 5), none⟩ ::
⟨(some 100), .idxS (.tmp 98) (.tmp 99), none⟩ ::
⟨(some 101), .callF 28 [(.tmp 100)], none⟩ ::
⟨(some 102), .mv (.tmp 101), none⟩ ::
⟨(some 103), .mv (.tmp 0), (some (102, false))⟩ ::
⟨(some 104), .mv (.tmp 5), (some (102, false))⟩ ::
⟨(some 105), .idxS (.tmp 103) (.tmp 104), (some (102, false))⟩ ::
⟨(some 106), .bin .eql (.tmp 105) (.const (.int .u8 45)), (some (102, false))⟩ ::
⟨(some 107), .mv (.tmp 106), (some (102, false))⟩ ::
⟨(some 108), .mv (.tmp 5), (some (107, true))⟩ ::
⟨(some 109), .bin .add (.tmp 108) (.const (.int .i64 1)), (some (107, true))⟩ ::
⟨(some 110), .mv (.tmp 0), (some (107, true))⟩ ::
⟨(some 111), .lenT (.tmp 110), (some (107, true))⟩ ::
⟨(some 112), .bin .lss (.tmp 109) (.tmp 111), (some (107, true))⟩ ::
⟨(some 113), .pick (.tmp 107) (.tmp 112) (.const (.bool false)), (some (102, false))⟩ ::
⟨(some 114), .mv (.tmp 113), (some (102, false))⟩ ::
⟨(some 115), .mv (.tmp 0), (some (114, true))⟩ ::
⟨(some 116), .mv (.tmp 5), (some (114, true))⟩ ::
⟨(some 117), .bin .add (.tmp 116) (.const (.int .i64 1)), (some (114, true))⟩ ::
⟨(some 118), .idxS (.tmp 115) (.tmp 117), (some (114, true))⟩ ::
⟨(some 119), .callF 28 [(.tmp 118)], (some (114, true))⟩ ::
⟨(some 120), .pick (.tmp 114) (.tmp 119) (.const (.bool false)), (some (102, false))⟩ ::
⟨(some 121), .pick (.tmp 102) (.const (.bool true)) (.tmp 120), none⟩ ::
[]))
(.cond (.tmp 121)
(.seq
(.plain (
⟨(some 122), .mv (.tmp 0), none⟩ ::
⟨(some 123), .mv (.tmp 5), none⟩ ::
⟨(some 124), .idxS (.tmp 122) (.tmp 123), none⟩ ::
⟨(some 125), .bin .eql (.tmp 124) (.const (.int .u8 45)), none⟩ ::
⟨(some 9), .mv (.tmp 125), none⟩ ::
[]))
(.seq
(.seq
(.plain (
⟨(some 126), .mv (.tmp 9), none⟩ ::
[]))
(.cond (.tmp 126)
(.plain (
⟨(some 127), .mv (.tmp 5), none⟩ ::
⟨(some 128), .bin .add (.tmp 127) (.const (.int .i64 1)), none⟩ ::
⟨(some 5), .mv (.tmp 128), none⟩ ::
[]))
.skip))
(.seq
(.plain (
⟨(some 10), .mv (.const (.int .u64 0)), none⟩ ::
⟨(some 11), .mv (.const (.bool false)), none⟩ ::
[]))
(.seq
(.block 6
(.loop
(.seq
(.seq
(.plain (
⟨(some 129), .mv (.tmp 5), none⟩ ::
⟨(some 130), .mv (.tmp 0), none⟩ ::
⟨(some 131), .lenT (.tmp 130), none⟩ ::
⟨(some 132), .bin .lss (.tmp 129) (.tmp 131), none⟩ ::
⟨(some 133), .mv (.tmp 132), none⟩ ::
⟨(some 134), .mv (.tmp 0), (some (133, true))⟩ ::
⟨(some 135), .mv (.tmp 5), (some (133, true))⟩ ::
⟨(some 136), .idxS (.tmp 134) (.tmp 135), (some (133, true))⟩ ::
⟨(some 137), .callF 28 [(.tmp 136)], (some (133, true))⟩ ::
⟨(some 138), .pick (.tmp 133) (.tmp 137) (.const (.bool false)), none⟩ ::
[]))
(.cond (.tmp 138)
.skip
(.exit 6)))
(.block 7
(.seq
(.plain (
⟨(some 139), .mv (.tmp 0), none⟩ ::
⟨(some 140), .mv (.tmp 5), none⟩ ::
⟨(some 141), .idxS (.tmp 139) (.tmp 140), none⟩ ::
⟨(some 142), .bin .sub (.tmp 141) (.const (.int .u8 48)), none⟩ ::
⟨(some 143), .cvt .u64 (.tmp 142), none⟩ ::
⟨(some 12), .mv (.tmp 143), none⟩ ::
[]))
(.seq
(.seq
(.plain (
⟨(some 144), .mv (.tmp 10), none⟩ ::
⟨(some 145), .bin .gtr (.tmp 144) (.const (.int .u64 922337203685477580)), none⟩ ::
[]))
(.cond (.tmp 145)
(.plain (
⟨(some 11), .mv (.const (.bool true)), none⟩ ::
[]))
.skip))
(.seq
(.plain (
⟨(some 146), .mv (.tmp 10), none⟩ ::
⟨(some 147), .bin .mul (.const (.int .u64 10)) (.tmp 146), none⟩ ::
⟨(some 148), .mv (.tmp 12), none⟩ ::
⟨(some 149), .bin .add (.tmp 147) (.tmp 148), none⟩ ::
⟨(some 10), .mv (.tmp 149), none⟩ ::
[]))
(.seq
(.seq
(.plain (
⟨(some 150), .mv (.tmp 10), none⟩ ::
⟨(some 151), .bin .gtr (.tmp 150) (.const (.int .u64 9223372036854775808)), none⟩ ::
⟨(some 152), .mv (.tmp 151), none⟩ ::
⟨(some 153), .mv (.tmp 9), (some (152, false))⟩ ::
⟨(some 154), .un .not (.tmp 153), (some (152, false))⟩ ::
⟨(some 155), .mv (.tmp 154), (some (152, false))⟩ ::
⟨(some 156), .mv (.tmp 10), (some (155, true))⟩ ::
⟨(some 157), .bin .gtr (.tmp 156) (.const (.int .u64 9223372036854775807)), (some (155, true))⟩ ::
⟨(some 158), .pick (.tmp 155) (.tmp 157) (.const (.bool false)), (some (152, false))⟩ ::
⟨(some 159), .pick (.tmp 152) (.const (.bool true)) (.tmp 158), none⟩ ::
[]))
(.cond (.tmp 159)
(.plain (
⟨(some 11), .mv (.const (.bool true)), none⟩ ::
[]))
.skip))
(.seq
(.seq
(.plain (
⟨(some 160), .mv (.tmp 11), none⟩ ::
[]))
(.cond (.tmp 160)
(.plain (
⟨(some 10), .mv (.const (.int .u64 0)), none⟩ ::
[]))
.skip))
(.plain (
⟨(some 161), .mv (.tmp 5), none⟩ ::
⟨(some 162), .bin .add (.tmp 161) (.const (.int .i64 1)), none⟩ ::
⟨(some 5), .mv (.tmp 162), none⟩ ::
[])))))))))))
(.seq
(.seq
(.plain (
⟨(some 163), .mv (.tmp 5), none⟩ ::
⟨(some 164), .mv (.tmp 0), none⟩ ::
⟨(some 165), .lenT (.tmp 164), none⟩ ::
⟨(some 166), .bin .lss (.tmp 163) (.tmp 165), none⟩ ::
⟨(some 167), .mv (.tmp 166), none⟩ ::
⟨(some 168), .mv (.tmp 0), (some (167, true))⟩ ::
⟨(some 169), .mv (.tmp 5), (some (167, true))⟩ ::
⟨(some 170), .idxS (.tmp 168) (.tmp 169), (some (167, true))⟩ ::
⟨(some 171), .bin .eql (.tmp 170) (.const (.int .u8 45)), (some (167, true))⟩ ::
⟨(some 172), .mv (.tmp 171), (some (167, true))⟩ ::
⟨(some 173), .mv (.tmp 0), (some (172, false))⟩ ::
⟨(some 174), .mv (.tmp 5), (some (172, false))⟩ ::
⟨(some 175), .idxS (.tmp 173) (.tmp 174), (some (172, false))⟩ ::
⟨(some 176), .callF 27 [(.tmp 175)], (some (172, false))⟩ ::
⟨(some 177), .pick (.tmp 172) (.const (.bool true)) (.tmp 176), (some (167, true))⟩ ::
⟨(some 178), .pick (.tmp 167) (.tmp 177) (.const (.bool false)), none⟩ ::
[]))
(.cond (.tmp 178)
(.seq
(.plain (
⟨(some 2), .mv (.const (.slice none 0 0)), none⟩ ::
⟨(some 3), .mv (.const (.int .i64 2)), none⟩ ::
[]))
.ret)
.skip))
(.seq
(.seq
(.plain (
⟨(some 179), .mv (.tmp 11), none⟩ ::
[]))
(.cond (.tmp 179)
(.seq
(.plain (
⟨(some 2), .mv (.const (.slice none 0 0)), none⟩ ::
⟨(some 3), .mv (.const (.int .i64 7)), none⟩ ::
[]))
.ret)
.skip))
(.seq
(.plain (
⟨(some 180), .mv (.tmp 10), none⟩ ::
⟨(some 181), .cvt .i64 (.tmp 180), none⟩ ::
⟨(some 13), .mv (.tmp 181), none⟩ ::
[]))
(.seq
(.seq
(.plain (
⟨(some 182), .mv (.tmp 9), none⟩ ::
[]))
(.cond (.tmp 182)
(.plain (
⟨(some 183), .mv (.tmp 13), none⟩ ::
⟨(some 184), .un .neg (.tmp 183), none⟩ ::
⟨(some 13), .mv (.tmp 184), none⟩ ::
[]))
.skip))
(.seq
(.plain (
⟨(some 185), .mv (.tmp 4), none⟩ ::
⟨(some 186), .mv (.tmp 13), none⟩ ::
⟨(some 187), .callF 23 [(.tmp 186)], none⟩ ::
⟨(some 188), .mv (.tmp 13), none⟩ ::
⟨(some 189), .mv (.tmp 6), none⟩ ::
⟨(some 190), .bld [(.v (.int .u8 0)), (.v (.string ⟨#[]⟩)), (.v (.int .i64 0)), (.v (.int .i64 0))] [(0, 1, (.const (.int .u8 2))), (1, 1, (.tmp 187)), (2, 1, (.tmp 188)), (3, 1, (.tmp 189))], none⟩ ::
⟨(some 191), .bsl 4 [(.tmp 190)], none⟩ ::
⟨(some 192), .app 4 40 (.tmp 185) (.tmp 191), none⟩ ::
⟨(some 4), .mv (.tmp 192), none⟩ ::
[]))
(.exit 1))))))))))
.skip))
(.seq
(.plain (
⟨(some 14), .mv (.const (.string ⟨#[]⟩)), none⟩ ::
[]))
(.seq
(.seq
(.plain (
⟨(some 193), .mv (.tmp 5), none⟩ ::
⟨(some 194), .bin .add (.tmp 193) (.const (.int .i64 1)), none⟩ ::
⟨(some 195), .mv (.tmp 0), none⟩ ::
⟨(some 196), .lenT (.tmp 195), none⟩ ::
⟨(some 197), .bin .lss (.tmp 194) (.tmp 196), none⟩ ::
[]))
(.cond (.tmp 197)
(.plain (
⟨(some 198), .mv (.tmp 0), none⟩ ::
⟨(some 199), .mv (.tmp 5), none⟩ ::
⟨(some 200), .mv (.tmp 5), none⟩ ::
⟨(some 201), .bin .add (.tmp 200) (.const (.int .i64 2)), none⟩ ::
⟨(some 202), .slcS (.tmp 198) (some (.tmp 199)) (some (.tmp 201)), none⟩ ::
⟨(some 14), .mv (.tmp 202), none⟩ ::
[]))
.skip))
(.seq
(.seq
(.plain (
⟨(some 203), .mv (.tmp 14), none⟩ ::
⟨(some 204), .bin .eql (.tmp 203) (.const (.string ⟨#[60, 61]⟩)), none⟩ ::
⟨(some 205), .mv (.tmp 204), none⟩ ::
⟨(some 206), .mv (.tmp 14), (some (205, false))⟩ ::
⟨(some 207), .bin .eql (.tmp 206) (.const (.string ⟨#[62, 61]⟩)), (some (205, false))⟩ ::
⟨(some 208), .pick (.tmp 205) (.const (.bool true)) (.tmp 207), none⟩ ::
[]))
(.cond (.tmp 208)
(.seq
(.plain (
⟨(some 209), .mv (.tmp 4), none⟩ ::
⟨(some 210), .mv (.tmp 14), none⟩ ::
⟨(some 211), .mv (.tmp 6), none⟩ ::
⟨(some 212), .bld [(.v (.int .u8 0)), (.v (.string ⟨#[]⟩)), (.v (.int .i64 0)), (.v (.int .i64 0))] [(0, 1, (.const (.int .u8 3))), (1, 1, (.tmp 210)), (3, 1, (.tmp 211))], none⟩ ::
⟨(some 213), .bsl 4 [(.tmp 212)], none⟩ ::
⟨(some 214), .app 4 40 (.tmp 209) (.tmp 213), none⟩ ::
⟨(some 4), .mv (.tmp 214), none⟩ ::
[]))
(.seq
(.plain (
⟨(some 215), .mv (.tmp 5), none⟩ ::
⟨(some 216), .bin .add (.tmp 215) (.const (.int .i64 2)), none⟩ ::
⟨(some 5), .mv (.tmp 216), none⟩ ::
[]))
(.exit 1)))
.skip))
(.seq
(.plain (
⟨(some 217), .mv (.tmp 0), none⟩ ::
⟨(some 218), .mv (.tmp 5), none⟩ ::
⟨(some 219), .idxS (.tmp 217) (.tmp 218), none⟩ ::
⟨(some 15), .mv (.tmp 219), none⟩ ::
[]))
(.seq
(.seq
(.plain (
⟨(some 220), .mv (.tmp 15), none⟩ ::
⟨(some 221), .bin .neq (.tmp 220) (.const (.int .u8 40)), none⟩ ::
⟨(some 222), .mv (.tmp 221), none⟩ ::
⟨(some 223), .mv (.tmp 15), (some (222, true))⟩ ::
⟨(some 224), .bin .neq (.tmp 223) (.const (.int .u8 41)), (some (222, true))⟩ ::
⟨(some 225), .pick (.tmp 222) (.tmp 224) (.const (.bool false)), none⟩ ::
⟨(some 226), .mv (.tmp 225), none⟩ ::
⟨(some 227), .mv (.tmp 15), (some (226, true))⟩ ::
⟨(some 228), .bin .neq (.tmp 227) (.const (.int .u8 44)), (some (226, true))⟩ ::
⟨(some 229), .pick (.tmp 226) (.tmp 228) (.const (.bool false)), none⟩ ::
⟨(some 230), .mv (.tmp 229), none⟩ ::
⟨(some 231), .mv (.tmp 15), (some (230, true))⟩ ::
⟨(some 232), .bin .neq (.tmp 231) (.const (.int .u8 42)), (some (230, true))⟩ ::
⟨(some 233), .pick (.tmp 230) (.tmp 232) (.const (.bool false)), none⟩ ::
⟨(some 234), .mv (.tmp 233), none⟩ ::
⟨(some 235), .mv (.tmp 15), (some (234, true))⟩ ::
⟨(some 236), .bin .neq (.tmp 235) (.const (.int .u8 61)), (some (234, true))⟩ ::
⟨(some 237), .pick (.tmp 234) (.tmp 236) (.const (.bool false)), none⟩ ::
⟨(some 238), .mv (.tmp 237), none⟩ ::
⟨(some 239), .mv (.tmp 15), (some (238, true))⟩ ::
⟨(some 240), .bin .neq (.tmp 239) (.const (.int .u8 60)), (some (238, true))⟩ ::
⟨(some 241), .pick (.tmp 238) (.tmp 240) (.const (.bool false)), none⟩ ::
⟨(some 242), .mv (.tmp 241), none⟩ ::
⟨(some 243), .mv (.tmp 15), (some (242, true))⟩ ::
⟨(some 244), .bin .neq (.tmp 243) (.const (.int .u8 62)), (some (242, true))⟩ ::
⟨(some 245), .pick (.tmp 242) (.tmp 244) (.const (.bool false)), none⟩ ::
[]))
(.cond (.tmp 245)
(.seq
(.plain (
⟨(some 2), .mv (.const (.slice none 0 0)), none⟩ ::
⟨(some 3), .mv (.const (.int .i64 2)), none⟩ ::
[]))
.ret)
.skip))
(.seq
(.plain (
⟨(some 246), .mv (.tmp 4), none⟩ ::
⟨(some 247), .mv (.tmp 15), none⟩ ::
⟨(some 248), .bsl 1 [(.tmp 247)], none⟩ ::
⟨(some 249), .b2s (.tmp 248), none⟩ ::
⟨(some 250), .mv (.tmp 6), none⟩ ::
⟨(some 251), .bld [(.v (.int .u8 0)), (.v (.string ⟨#[]⟩)), (.v (.int .i64 0)), (.v (.int .i64 0))] [(0, 1, (.const (.int .u8 3))), (1, 1, (.tmp 249)), (3, 1, (.tmp 250))], none⟩ ::
⟨(some 252), .bsl 4 [(.tmp 251)], none⟩ ::
⟨(some 253), .app 4 40 (.tmp 246) (.tmp 252), none⟩ ::
⟨(some 4), .mv (.tmp 253), none⟩ ::
[]))
(.plain (
⟨(some 254), .mv (.tmp 5), none⟩ ::
⟨(some 255), .bin .add (.tmp 254) (.const (.int .i64 1)), none⟩ ::
⟨(some 5), .mv (.tmp 255), none⟩ ::
[])))))))))))))))))
(.seq
(.plain (
⟨(some 256), .mv (.tmp 4), none⟩ ::
⟨(some 2), .mv (.tmp 256), none⟩ ::
⟨(some 3), .mv (.const (.int .i64 0)), none⟩ ::
[]))
.ret))))))
theorem prep10 : prepFunc Tryz.prog 0 10 = some F10 := by kernel_rfl
def F11 : AFunc where
  ntmps := 23
  nparams := 1
  results := [(2, none)]
  code :=
(.seq
(.plain (
⟨(some 2), .mv (.const (.string ⟨#[]⟩)), none⟩ ::
[]))
(.seq
(.plain (
⟨(some 3), .mv (.const (.string ⟨#[]⟩)), none⟩ ::
[]))
(.seq
(.seq
(.plain (
⟨(some 4), .mv (.const (.int .i64 0)), none⟩ ::
[]))
(.block 0
(.loop
(.seq
(.seq
(.plain (
⟨(some 5), .mv (.tmp 4), none⟩ ::
⟨(some 6), .mv (.tmp 0), none⟩ ::
⟨(some 7), .len (.tmp 6), none⟩ ::
⟨(some 8), .bin .lss (.tmp 5) (.tmp 7), none⟩ ::
[]))
(.cond (.tmp 8)
.skip
(.exit 0)))
(.seq
(.block 1
(.seq
(.seq
(.plain (
⟨(some 11), .mv (.tmp 4), none⟩ ::
⟨(some 12), .bin .gtr (.tmp 11) (.const (.int .i64 0)), none⟩ ::
[]))
(.cond (.tmp 12)
(.plain (
⟨(some 13), .mv (.tmp 3), none⟩ ::
⟨(some 14), .bin .add (.tmp 13) (.const (.string ⟨#[32]⟩)), none⟩ ::
⟨(some 3), .mv (.tmp 14), none⟩ ::
[]))
.skip))
(.plain (
⟨(some 15), .mv (.tmp 3), none⟩ ::
⟨(some 16), .mv (.tmp 0), none⟩ ::
⟨(some 17), .mv (.tmp 4), none⟩ ::
⟨(some 18), .iaS 4 (.tmp 16) (.tmp 17), none⟩ ::
⟨(some 19), .fa 1 (.tmp 18), none⟩ ::
⟨(some 20), .load false 1 (.tmp 19), none⟩ ::
⟨(some 21), .bin .add (.tmp 15) (.tmp 20), none⟩ ::
⟨(some 3), .mv (.tmp 21), none⟩ ::
[]))))
(.plain (
⟨(some 9), .mv (.tmp 4), none⟩ ::
⟨(some 10), .bin .add (.tmp 9) (.const (.int .i64 1)), none⟩ ::
⟨(some 4), .mv (.tmp 10), none⟩ ::
[])))))))
(.seq
(.plain (
⟨(some 22), .mv (.tmp 3), none⟩ ::
⟨(some 2), .mv (.tmp 22), none⟩ ::
[]))
.ret))))
theorem prep11 : prepFunc Tryz.prog 0 11 = some F11 := by kernel_rfl
def F12 : DFunc where
  ntmps := 33
  nparams := 1
  results := [(2, (some (false, 1))), (3, (some (false, 1)))]
  clo := (.tmp 15)
  dops := (⟨(some 15), .clo 30 [] [(.tmp 2), (.tmp 3)], none⟩ ::
[])
  pre := [
(.plain (
⟨(some 2), .alloc 20 [(.v .nilIface)], none⟩ ::
⟨(some 3), .alloc 35 [(.v (.int .i64 0))], none⟩ ::
[])),
(.plain (
⟨(some 8), .mv (.tmp 0), none⟩ ::
⟨(some 9), .callF 29 [(.tmp 8)], none⟩ ::
⟨(some 7), .mv (.tmp 9), none⟩ ::
⟨(some 10), .ext (.tmp 7) 0, none⟩ ::
⟨(some 11), .ext (.tmp 7) 1, none⟩ ::
⟨(some 4), .mv (.tmp 10), none⟩ ::
⟨none, .store 1 (.tmp 3) (.tmp 11), none⟩ ::
[])),
(.seq
(.plain (
⟨(some 12), .load false 1 (.tmp 3), none⟩ ::
⟨(some 13), .bin .neq (.tmp 12) (.const (.int .i64 0)), none⟩ ::
[]))
(.cond (.tmp 13)
(.seq
(.draw (
⟨(some 14), .load false 1 (.tmp 3), none⟩ ::
⟨none, .store 1 (.tmp 2) (.const .nilIface), none⟩ ::
⟨none, .store 1 (.tmp 3) (.tmp 14), none⟩ ::
[])
(⟨0, [], []⟩ :: ⟨1, [], [0]⟩ :: ⟨2, [], []⟩ :: []))
.ret)
.skip))]
  free := []
  post :=
(.seq
(.plain (
⟨(some 16), .mv (.tmp 4), none⟩ ::
⟨(some 17), .bld [(.sl [] .nil)] [(0, 1, (.tmp 16))], none⟩ ::
⟨(some 18), .box 78 (.tmp 17), none⟩ ::
⟨(some 5), .mv (.tmp 18), none⟩ ::
[]))
(.seq
(.plain (
⟨(some 6), .alloc 26 [(.sl [] .nil)], none⟩ ::
[]))
(.seq
(.plain (
⟨(some 19), .mv (.tmp 5), none⟩ ::
⟨(some 20), .callF 31 [(.tmp 19), (.tmp 6)], none⟩ ::
⟨none, .store 1 (.tmp 2) (.tmp 20), none⟩ ::
[]))
(.seq
(.seq
(.plain (
⟨(some 21), .mv (.tmp 5), none⟩ ::
⟨(some 22), .nilc (.tmp 21), none⟩ ::
⟨(some 23), .fa 0 (.tmp 22), none⟩ ::
⟨(some 24), .load false 1 (.tmp 23), none⟩ ::
⟨(some 25), .len (.tmp 24), none⟩ ::
⟨(some 26), .bin .gtr (.tmp 25) (.const (.int .i64 0)), none⟩ ::
[]))
(.cond (.tmp 26)
(.plain (
⟨(some 27), .callF 32 [], none⟩ ::
[]))
.skip))
(.seq
(.seq
(.plain (
⟨(some 28), .load false 1 (.tmp 6), none⟩ ::
⟨(some 29), .callF 33 [(.tmp 28), (.func 34)], none⟩ ::
[]))
(.cond (.tmp 29)
(.plain (
⟨(some 30), .bld [(.v (.int .i64 0))] [(0, 1, (.const (.int .i64 7)))], none⟩ ::
⟨(some 31), .mki 74 (.tmp 30), none⟩ ::
⟨none, .pan (.tmp 31), none⟩ ::
[]))
.skip))
(.seq
(.plain (
⟨(some 32), .load false 1 (.tmp 2), none⟩ ::
⟨none, .store 1 (.tmp 2) (.tmp 32), none⟩ ::
⟨none, .store 1 (.tmp 3) (.const (.int .i64 0)), none⟩ ::
[]))
.ret))))))
theorem prep12 : prepD Tryz.prog 0 12 = some F12 := by kernel_rfl
def F13 : AFunc where
  ntmps := 183
  nparams := 2
  results := [(4, none)]
  code :=
(.seq
(.plain (
⟨(some 2), .box 45 (.tmp 0), none⟩ ::
⟨(some 3), .box 45 (.tmp 1), none⟩ ::
⟨(some 4), .mv (.const (.bool false)), none⟩ ::
[]))
(.seq
(.seq
(.plain (
⟨(some 9), .fa 0 (.tmp 2), none⟩ ::
⟨(some 10), .load false 1 (.tmp 9), none⟩ ::
⟨(some 11), .fa 0 (.tmp 3), none⟩ ::
⟨(some 12), .load false 1 (.tmp 11), none⟩ ::
⟨(some 13), .bin .neq (.tmp 10) (.tmp 12), none⟩ ::
⟨(some 14), .mv (.tmp 13), none⟩ ::
⟨(some 15), .fa 1 (.tmp 2), (some (14, false))⟩ ::
⟨(some 16), .load false 1 (.tmp 15), (some (14, false))⟩ ::
⟨(some 17), .fa 1 (.tmp 3), (some (14, false))⟩ ::
⟨(some 18), .load false 1 (.tmp 17), (some (14, false))⟩ ::
⟨(some 19), .bin .neq (.tmp 16) (.tmp 18), (some (14, false))⟩ ::
⟨(some 20), .pick (.tmp 14) (.const (.bool true)) (.tmp 19), none⟩ ::
⟨(some 21), .mv (.tmp 20), none⟩ ::
⟨(some 22), .fa 2 (.tmp 2), (some (21, false))⟩ ::
⟨(some 23), .load false 1 (.tmp 22), (some (21, false))⟩ ::
⟨(some 24), .len (.tmp 23), (some (21, false))⟩ ::
⟨(some 25), .fa 2 (.tmp 3), (some (21, false))⟩ ::
⟨(some 26), .load false 1 (.tmp 25), (some (21, false))⟩ ::
⟨(some 27), .len (.tmp 26), (some (21, false))⟩ ::
⟨(some 28), .bin .neq (.tmp 24) (.tmp 27), (some (21, false))⟩ ::
⟨(some 29), .pick (.tmp 21) (.const (.bool true)) (.tmp 28), none⟩ ::
⟨(some 30), .mv (.tmp 29), none⟩ ::
⟨(some 31), .fa 3 (.tmp 2), (some (30, false))⟩ ::
⟨(some 32), .load false 1 (.tmp 31), (some (30, false))⟩ ::
⟨(some 33), .len (.tmp 32), (some (30, false))⟩ ::
⟨(some 34), .fa 3 (.tmp 3), (some (30, false))⟩ ::
⟨(some 35), .load false 1 (.tmp 34), (some (30, false))⟩ ::
⟨(some 36), .len (.tmp 35), (some (30, false))⟩ ::
⟨(some 37), .bin .neq (.tmp 33) (.tmp 36), (some (30, false))⟩ ::
⟨(some 38), .pick (.tmp 30) (.const (.bool true)) (.tmp 37), none⟩ ::
⟨(some 39), .mv (.tmp 38), none⟩ ::
⟨(some 40), .fa 4 (.tmp 2), (some (39, false))⟩ ::
⟨(some 41), .load false 1 (.tmp 40), (some (39, false))⟩ ::
⟨(some 42), .len (.tmp 41), (some (39, false))⟩ ::
⟨(some 43), .fa 4 (.tmp 3), (some (39, false))⟩ ::
⟨(some 44), .load false 1 (.tmp 43), (some (39, false))⟩ ::
⟨(some 45), .len (.tmp 44), (some (39, false))⟩ ::
⟨(some 46), .bin .neq (.tmp 42) (.tmp 45), (some (39, false))⟩ ::
⟨(some 47), .pick (.tmp 39) (.const (.bool true)) (.tmp 46), none⟩ ::
⟨(some 48), .mv (.tmp 47), none⟩ ::
⟨(some 49), .fa 5 (.tmp 2), (some (48, false))⟩ ::
⟨(some 50), .load false 1 (.tmp 49), (some (48, false))⟩ ::
⟨(some 51), .len (.tmp 50), (some (48, false))⟩ ::
⟨(some 52), .fa 5 (.tmp 3), (some (48, false))⟩ ::
⟨(some 53), .load false 1 (.tmp 52), (some (48, false))⟩ ::
⟨(some 54), .len (.tmp 53), (some (48, false))⟩ ::
⟨(some 55), .bin .neq (.tmp 51) (.tmp 54), (some (48, false))⟩ ::
⟨(some 56), .pick (.tmp 48) (.const (.bool true)) (.tmp 55), none⟩ ::
[]))
(.cond (.tmp 56)
(.seq
(.plain (
⟨(some 4), .mv (.const (.bool false)), none⟩ ::
[]))
.ret)
.skip))
(.seq
(.seq
(.plain (
⟨(some 5), .mv (.const (.int .i64 0)), none⟩ ::
[]))
(.block 0
(.loop
(.seq
(.seq
(.plain (
⟨(some 57), .mv (.tmp 5), none⟩ ::
⟨(some 58), .fa 2 (.tmp 2), none⟩ ::
⟨(some 59), .load false 1 (.tmp 58), none⟩ ::
⟨(some 60), .len (.tmp 59), none⟩ ::
⟨(some 61), .bin .lss (.tmp 57) (.tmp 60), none⟩ ::
[]))
(.cond (.tmp 61)
.skip
(.exit 0)))
(.seq
(.block 1
(.seq
(.draw (
⟨(some 64), .fa 2 (.tmp 2), none⟩ ::
⟨(some 65), .load false 1 (.tmp 64), none⟩ ::
⟨(some 66), .mv (.tmp 5), none⟩ ::
⟨(some 67), .iaS 1 (.tmp 65) (.tmp 66), none⟩ ::
⟨(some 68), .load false 1 (.tmp 67), none⟩ ::
⟨(some 69), .fa 2 (.tmp 3), none⟩ ::
⟨(some 70), .load false 1 (.tmp 69), none⟩ ::
⟨(some 71), .mv (.tmp 5), none⟩ ::
⟨(some 72), .iaS 1 (.tmp 70) (.tmp 71), none⟩ ::
⟨(some 73), .load false 1 (.tmp 72), none⟩ ::
⟨(some 74), .bin .neq (.tmp 68) (.tmp 73), none⟩ ::
[])
(⟨0, [], []⟩ :: ⟨1, [], []⟩ :: ⟨2, [], []⟩ :: ⟨3, [], []⟩ :: ⟨4, [], []⟩ :: ⟨5, [], []⟩ :: ⟨6, [], []⟩ :: ⟨7, [], []⟩ :: ⟨8, [], []⟩ :: ⟨9, [], []⟩ :: ⟨10, [], []⟩ :: []))
(.cond (.tmp 74)
(.seq
(.plain (
⟨(some 4), .mv (.const (.bool false)), none⟩ ::
[]))
.ret)
.skip)))
(.plain (
⟨(some 62), .mv (.tmp 5), none⟩ ::
⟨(some 63), .bin .add (.tmp 62) (.const (.int .i64 1)), none⟩ ::
⟨(some 5), .mv (.tmp 63), none⟩ ::
[])))))))
(.seq
(.seq
(.plain (
⟨(some 6), .mv (.const (.int .i64 0)), none⟩ ::
[]))
(.block 2
(.loop
(.seq
(.seq
(.plain (
⟨(some 75), .mv (.tmp 6), none⟩ ::
⟨(some 76), .fa 3 (.tmp 2), none⟩ ::
⟨(some 77), .load false 1 (.tmp 76), none⟩ ::
⟨(some 78), .len (.tmp 77), none⟩ ::
⟨(some 79), .bin .lss (.tmp 75) (.tmp 78), none⟩ ::
[]))
(.cond (.tmp 79)
.skip
(.exit 2)))
(.seq
(.block 3
(.seq
(.draw (
⟨(some 82), .fa 3 (.tmp 2), none⟩ ::
⟨(some 83), .load false 1 (.tmp 82), none⟩ ::
⟨(some 84), .mv (.tmp 6), none⟩ ::
⟨(some 85), .iaS 1 (.tmp 83) (.tmp 84), none⟩ ::
⟨(some 86), .load false 1 (.tmp 85), none⟩ ::
⟨(some 87), .fa 3 (.tmp 3), none⟩ ::
⟨(some 88), .load false 1 (.tmp 87), none⟩ ::
⟨(some 89), .mv (.tmp 6), none⟩ ::
⟨(some 90), .iaS 1 (.tmp 88) (.tmp 89), none⟩ ::
⟨(some 91), .load false 1 (.tmp 90), none⟩ ::
⟨(some 92), .callF 35 [(.tmp 86), (.tmp 91)], none⟩ ::
⟨(some 93), .un .not (.tmp 92), none⟩ ::
[])
(⟨0, [], []⟩ :: ⟨1, [], []⟩ :: ⟨2, [], []⟩ :: ⟨3, [], []⟩ :: ⟨4, [], []⟩ :: ⟨5, [], []⟩ :: ⟨6, [], []⟩ :: ⟨7, [], []⟩ :: ⟨8, [], []⟩ :: ⟨9, [], []⟩ :: ⟨10, [], []⟩ :: ⟨11, [], []⟩ :: []))
(.cond (.tmp 93)
(.seq
(.plain (
⟨(some 4), .mv (.const (.bool false)), none⟩ ::
[]))
.ret)
.skip)))
(.plain (
⟨(some 80), .mv (.tmp 6), none⟩ ::
⟨(some 81), .bin .add (.tmp 80) (.const (.int .i64 1)), none⟩ ::
⟨(some 6), .mv (.tmp 81), none⟩ ::
[])))))))
(.seq
(.seq
(.plain (
⟨(some 7), .mv (.const (.int .i64 0)), none⟩ ::
[]))
(.block 4
(.loop
(.seq
(.seq
(.plain (
⟨(some 94), .mv (.tmp 7), none⟩ ::
⟨(some 95), .fa 4 (.tmp 2), none⟩ ::
⟨(some 96), .load false 1 (.tmp 95), none⟩ ::
⟨(some 97), .len (.tmp 96), none⟩ ::
⟨(some 98), .bin .lss (.tmp 94) (.tmp 97), none⟩ ::
[]))
(.cond (.tmp 98)
.skip
(.exit 4)))
(.seq
(.block 5
(.seq
(.draw (
⟨(some 101), .fa 4 (.tmp 2), none⟩ ::
⟨(some 102), .load false 1 (.tmp 101), none⟩ ::
⟨(some 103), .mv (.tmp 7), none⟩ ::
⟨(some 104), .iaS 4 (.tmp 102) (.tmp 103), none⟩ ::
⟨(some 105), .load true 4 (.tmp 104), none⟩ ::
⟨(some 106), .fa 4 (.tmp 3), none⟩ ::
⟨(some 107), .load false 1 (.tmp 106), none⟩ ::
⟨(some 108), .mv (.tmp 7), none⟩ ::
⟨(some 109), .iaS 4 (.tmp 107) (.tmp 108), none⟩ ::
⟨(some 110), .load true 4 (.tmp 109), none⟩ ::
⟨(some 111), .eqv true [(2, .str), (2, .int .i64)] (.tmp 105) (.tmp 110), none⟩ ::
[])
(⟨0, [], []⟩ :: ⟨1, [], []⟩ :: ⟨2, [], []⟩ :: ⟨3, [], []⟩ :: ⟨4, [], []⟩ :: ⟨5, [], []⟩ :: ⟨6, [], []⟩ :: ⟨7, [], []⟩ :: ⟨8, [], []⟩ :: ⟨9, [], []⟩ :: ⟨10, [], []⟩ :: []))
(.cond (.tmp 111)
(.seq
(.plain (
⟨(some 4), .mv (.const (.bool false)), none⟩ ::
[]))
.ret)
.skip)))
(.plain (
⟨(some 99), .mv (.tmp 7), none⟩ ::
⟨(some 100), .bin .add (.tmp 99) (.const (.int .i64 1)), none⟩ ::
⟨(some 7), .mv (.tmp 100), none⟩ ::
[])))))))
(.seq
(.seq
(.plain (
⟨(some 8), .mv (.const (.int .i64 0)), none⟩ ::
[]))
(.block 6
(.loop
(.seq
(.seq
(.plain (
⟨(some 112), .mv (.tmp 8), none⟩ ::
⟨(some 113), .fa 5 (.tmp 2), none⟩ ::
⟨(some 114), .load false 1 (.tmp 113), none⟩ ::
⟨(some 115), .len (.tmp 114), none⟩ ::
⟨(some 116), .bin .lss (.tmp 112) (.tmp 115), none⟩ ::
[]))
(.cond (.tmp 116)
.skip
(.exit 6)))
(.seq
(.block 7
(.seq
(.draw (
⟨(some 119), .fa 5 (.tmp 2), none⟩ ::
⟨(some 120), .load false 1 (.tmp 119), none⟩ ::
⟨(some 121), .mv (.tmp 8), none⟩ ::
⟨(some 122), .iaS 2 (.tmp 120) (.tmp 121), none⟩ ::
⟨(some 123), .load true 2 (.tmp 122), none⟩ ::
⟨(some 124), .fa 5 (.tmp 3), none⟩ ::
⟨(some 125), .load false 1 (.tmp 124), none⟩ ::
⟨(some 126), .mv (.tmp 8), none⟩ ::
⟨(some 127), .iaS 2 (.tmp 125) (.tmp 126), none⟩ ::
⟨(some 128), .load true 2 (.tmp 127), none⟩ ::
⟨(some 129), .eqv true [(1, .str), (1, .int .i64)] (.tmp 123) (.tmp 128), none⟩ ::
[])
(⟨0, [], []⟩ :: ⟨1, [], []⟩ :: ⟨2, [], []⟩ :: ⟨3, [], []⟩ :: ⟨4, [], []⟩ :: ⟨5, [], []⟩ :: ⟨6, [], []⟩ :: ⟨7, [], []⟩ :: ⟨8, [], []⟩ :: ⟨9, [], []⟩ :: ⟨10, [], []⟩ :: []))
(.cond (.tmp 129)
(.seq
(.plain (
⟨(some 4), .mv (.const (.bool false)), none⟩ ::
[]))
.ret)
.skip)))
(.plain (
⟨(some 117), .mv (.tmp 8), none⟩ ::
⟨(some 118), .bin .add (.tmp 117) (.const (.int .i64 1)), none⟩ ::
⟨(some 8), .mv (.tmp 118), none⟩ ::
[])))))))
(.seq
(.plain (
⟨(some 130), .fa 6 (.tmp 2), none⟩ ::
⟨(some 131), .load false 1 (.tmp 130), none⟩ ::
⟨(some 132), .fa 6 (.tmp 3), none⟩ ::
⟨(some 133), .load false 1 (.tmp 132), none⟩ ::
⟨(some 134), .eqb false (.tmp 131) (.tmp 133), none⟩ ::
⟨(some 135), .mv (.tmp 134), none⟩ ::
⟨(some 136), .fa 7 (.tmp 2), (some (135, true))⟩ ::
⟨(some 137), .load false 1 (.tmp 136), (some (135, true))⟩ ::
⟨(some 138), .fa 7 (.tmp 3), (some (135, true))⟩ ::
⟨(some 139), .load false 1 (.tmp 138), (some (135, true))⟩ ::
⟨(some 140), .bin .eql (.tmp 137) (.tmp 139), (some (135, true))⟩ ::
⟨(some 141), .pick (.tmp 135) (.tmp 140) (.const (.bool false)), none⟩ ::
⟨(some 142), .mv (.tmp 141), none⟩ ::
⟨(some 143), .fa 8 (.tmp 2), (some (142, true))⟩ ::
⟨(some 144), .fa 0 (.tmp 143), (some (142, true))⟩ ::
⟨(some 145), .load false 1 (.tmp 144), (some (142, true))⟩ ::
⟨(some 146), .fa 8 (.tmp 3), (some (142, true))⟩ ::
⟨(some 147), .fa 0 (.tmp 146), (some (142, true))⟩ ::
⟨(some 148), .load false 1 (.tmp 147), (some (142, true))⟩ ::
⟨(some 149), .bin .eql (.tmp 145) (.tmp 148), (some (142, true))⟩ ::
⟨(some 150), .pick (.tmp 142) (.tmp 149) (.const (.bool false)), none⟩ ::
⟨(some 151), .mv (.tmp 150), none⟩ ::
⟨(some 152), .fa 8 (.tmp 2), (some (151, true))⟩ ::
⟨(some 153), .fa 1 (.tmp 152), (some (151, true))⟩ ::
⟨(some 154), .load false 1 (.tmp 153), (some (151, true))⟩ ::
⟨(some 155), .fa 8 (.tmp 3), (some (151, true))⟩ ::
⟨(some 156), .fa 1 (.tmp 155), (some (151, true))⟩ ::
⟨(some 157), .load false 1 (.tmp 156), (some (151, true))⟩ ::
⟨(some 158), .eqb false (.tmp 154) (.tmp 157), (some (151, true))⟩ ::
⟨(some 159), .pick (.tmp 151) (.tmp 158) (.const (.bool false)), none⟩ ::
⟨(some 160), .mv (.tmp 159), none⟩ ::
⟨(some 161), .fa 8 (.tmp 2), (some (160, true))⟩ ::
⟨(some 162), .fa 2 (.tmp 161), (some (160, true))⟩ ::
⟨(some 163), .load false 1 (.tmp 162), (some (160, true))⟩ ::
⟨(some 164), .fa 8 (.tmp 3), (some (160, true))⟩ ::
⟨(some 165), .fa 2 (.tmp 164), (some (160, true))⟩ ::
⟨(some 166), .load false 1 (.tmp 165), (some (160, true))⟩ ::
⟨(some 167), .callF 35 [(.tmp 163), (.tmp 166)], (some (160, true))⟩ ::
⟨(some 168), .pick (.tmp 160) (.tmp 167) (.const (.bool false)), none⟩ ::
⟨(some 169), .mv (.tmp 168), none⟩ ::
⟨(some 170), .fa 11 (.tmp 2), (some (169, true))⟩ ::
⟨(some 171), .load false 1 (.tmp 170), (some (169, true))⟩ ::
⟨(some 172), .fa 11 (.tmp 3), (some (169, true))⟩ ::
⟨(some 173), .load false 1 (.tmp 172), (some (169, true))⟩ ::
⟨(some 174), .bin .eql (.tmp 171) (.tmp 173), (some (169, true))⟩ ::
⟨(some 175), .pick (.tmp 169) (.tmp 174) (.const (.bool false)), none⟩ ::
⟨(some 176), .mv (.tmp 175), none⟩ ::
⟨(some 177), .fa 12 (.tmp 2), (some (176, true))⟩ ::
⟨(some 178), .load false 1 (.tmp 177), (some (176, true))⟩ ::
⟨(some 179), .fa 12 (.tmp 3), (some (176, true))⟩ ::
⟨(some 180), .load false 1 (.tmp 179), (some (176, true))⟩ ::
⟨(some 181), .bin .eql (.tmp 178) (.tmp 180), (some (176, true))⟩ ::
⟨(some 182), .pick (.tmp 176) (.tmp 181) (.const (.bool false)), none⟩ ::
⟨(some 4), .mv (.tmp 182), none⟩ ::
[]))
.ret)))))))
theorem prep13 : prepFunc Tryz.prog 1 13 = some F13 := by kernel_rfl
def F14 : AFunc where
  ntmps := 74
  nparams := 1
  results := [(2, (some (true, 13)))]
  code :=
(.seq
(.plain (
⟨(some 2), .alloc 45 ([(.v (.int .i64 0))] ++ [(.v (.string ⟨#[]⟩))] ++ List.replicate 4 (.sl [] .nil) ++ [(.v (.bool false))] ++ [(.v (.int .i64 0))] ++ [(.v (.string ⟨#[]⟩))] ++ [(.v (.bool false))] ++ [(.sl [] .nil)] ++ [(.v (.int .i64 0))] ++ [(.v (.int .u8 0))]), none⟩ ::
[]))
(.seq
(.seq
(.plain (
⟨(some 10), .mv (.tmp 0), none⟩ ::
[]))
(.block 0
(.seq
(.plain (
⟨(some 11), .asrt 89 true (.agg [(.v (.string ⟨#[]⟩)), (.sl [] .nil)]) (.tmp 10), none⟩ ::
⟨(some 12), .ext (.tmp 11) 1, none⟩ ::
⟨(some 13), .ext (.tmp 11) 0, none⟩ ::
[]))
(.cond (.tmp 12)
(.seq
(.plain (
⟨(some 3), .alloc 89 [(.v (.string ⟨#[]⟩)), (.sl [] .nil)], none⟩ ::
⟨none, .store 2 (.tmp 3) (.tmp 13), none⟩ ::
[]))
(.seq
(.plain (
⟨(some 14), .fa 0 (.tmp 3), none⟩ ::
⟨(some 15), .load false 1 (.tmp 14), none⟩ ::
⟨(some 16), .fa 1 (.tmp 3), none⟩ ::
⟨(some 17), .load false 1 (.tmp 16), none⟩ ::
⟨(some 18), .bld ([(.v (.int .i64 0))] ++ [(.v (.string ⟨#[]⟩))] ++ List.replicate 4 (.sl [] .nil) ++ [(.v (.bool false))] ++ [(.v (.int .i64 0))] ++ [(.v (.string ⟨#[]⟩))] ++ [(.v (.bool false))] ++ [(.sl [] .nil)] ++ [(.v (.int .i64 0))] ++ [(.v (.int .u8 0))]) [(0, 1, (.const (.int .i64 1))), (1, 1, (.tmp 15)), (2, 1, (.tmp 17))], none⟩ ::
⟨none, .store 13 (.tmp 2) (.tmp 18), none⟩ ::
[]))
.ret))
(.seq
(.plain (
⟨(some 19), .asrt 91 true (.agg [(.v (.string ⟨#[]⟩))]) (.tmp 10), none⟩ ::
⟨(some 20), .ext (.tmp 19) 1, none⟩ ::
⟨(some 21), .ext (.tmp 19) 0, none⟩ ::
[]))
(.cond (.tmp 20)
(.seq
(.plain (
⟨(some 4), .alloc 91 [(.v (.string ⟨#[]⟩))], none⟩ ::
⟨none, .store 1 (.tmp 4) (.tmp 21), none⟩ ::
[]))
(.seq
(.plain (
⟨(some 22), .fa 0 (.tmp 4), none⟩ ::
⟨(some 23), .load false 1 (.tmp 22), none⟩ ::
⟨(some 24), .bld ([(.v (.int .i64 0))] ++ [(.v (.string ⟨#[]⟩))] ++ List.replicate 4 (.sl [] .nil) ++ [(.v (.bool false))] ++ [(.v (.int .i64 0))] ++ [(.v (.string ⟨#[]⟩))] ++ [(.v (.bool false))] ++ [(.sl [] .nil)] ++ [(.v (.int .i64 0))] ++ [(.v (.int .u8 0))]) [(0, 1, (.const (.int .i64 2))), (1, 1, (.tmp 23))], none⟩ ::
⟨none, .store 13 (.tmp 2) (.tmp 24), none⟩ ::
[]))
.ret))
(.seq
(.plain (
⟨(some 25), .asrt 93 true (.agg [(.v (.string ⟨#[]⟩)), (.sl [] .nil)]) (.tmp 10), none⟩ ::
⟨(some 26), .ext (.tmp 25) 1, none⟩ ::
⟨(some 27), .ext (.tmp 25) 0, none⟩ ::
[]))
(.cond (.tmp 26)
(.seq
(.plain (
⟨(some 5), .alloc 93 [(.v (.string ⟨#[]⟩)), (.sl [] .nil)], none⟩ ::
⟨none, .store 2 (.tmp 5) (.tmp 27), none⟩ ::
[]))
(.seq
(.plain (
⟨(some 28), .fa 0 (.tmp 5), none⟩ ::
⟨(some 29), .load false 1 (.tmp 28), none⟩ ::
⟨(some 30), .fa 1 (.tmp 5), none⟩ ::
⟨(some 31), .load false 1 (.tmp 30), none⟩ ::
⟨(some 32), .bld ([(.v (.int .i64 0))] ++ [(.v (.string ⟨#[]⟩))] ++ List.replicate 4 (.sl [] .nil) ++ [(.v (.bool false))] ++ [(.v (.int .i64 0))] ++ [(.v (.string ⟨#[]⟩))] ++ [(.v (.bool false))] ++ [(.sl [] .nil)] ++ [(.v (.int .i64 0))] ++ [(.v (.int .u8 0))]) [(0, 1, (.const (.int .i64 3))), (1, 1, (.tmp 29)), (3, 1, (.tmp 31))], none⟩ ::
⟨none, .store 13 (.tmp 2) (.tmp 32), none⟩ ::
[]))
.ret))
(.seq
(.plain (
⟨(some 33), .asrt 95 true (.agg [(.v (.string ⟨#[]⟩)), (.sl [] .nil)]) (.tmp 10), none⟩ ::
⟨(some 34), .ext (.tmp 33) 1, none⟩ ::
⟨(some 35), .ext (.tmp 33) 0, none⟩ ::
[]))
(.cond (.tmp 34)
(.seq
(.plain (
⟨(some 6), .alloc 95 [(.v (.string ⟨#[]⟩)), (.sl [] .nil)], none⟩ ::
⟨none, .store 2 (.tmp 6) (.tmp 35), none⟩ ::
[]))
(.seq
(.plain (
⟨(some 36), .fa 0 (.tmp 6), none⟩ ::
⟨(some 37), .load false 1 (.tmp 36), none⟩ ::
⟨(some 38), .fa 1 (.tmp 6), none⟩ ::
⟨(some 39), .load false 1 (.tmp 38), none⟩ ::
⟨(some 40), .bld ([(.v (.int .i64 0))] ++ [(.v (.string ⟨#[]⟩))] ++ List.replicate 4 (.sl [] .nil) ++ [(.v (.bool false))] ++ [(.v (.int .i64 0))] ++ [(.v (.string ⟨#[]⟩))] ++ [(.v (.bool false))] ++ [(.sl [] .nil)] ++ [(.v (.int .i64 0))] ++ [(.v (.int .u8 0))]) [(0, 1, (.const (.int .i64 4))), (1, 1, (.tmp 37)), (4, 1, (.tmp 39))], none⟩ ::
⟨none, .store 13 (.tmp 2) (.tmp 40), none⟩ ::
[]))
.ret))
(.seq
(.plain (
⟨(some 41), .asrt 97 true (.agg [(.v (.string ⟨#[]⟩)), (.sl [] .nil), (.sl [] .nil)]) (.tmp 10), none⟩ ::
⟨(some 42), .ext (.tmp 41) 1, none⟩ ::
⟨(some 43), .ext (.tmp 41) 0, none⟩ ::
[]))
(.cond (.tmp 42)
(.seq
(.plain (
⟨(some 7), .alloc 97 [(.v (.string ⟨#[]⟩)), (.sl [] .nil), (.sl [] .nil)], none⟩ ::
⟨none, .store 3 (.tmp 7) (.tmp 43), none⟩ ::
[]))
(.seq
(.plain (
⟨(some 44), .fa 0 (.tmp 7), none⟩ ::
⟨(some 45), .load false 1 (.tmp 44), none⟩ ::
⟨(some 46), .fa 1 (.tmp 7), none⟩ ::
⟨(some 47), .load false 1 (.tmp 46), none⟩ ::
⟨(some 48), .fa 2 (.tmp 7), none⟩ ::
⟨(some 49), .load false 1 (.tmp 48), none⟩ ::
⟨(some 50), .bld ([(.v (.int .i64 0))] ++ [(.v (.string ⟨#[]⟩))] ++ List.replicate 4 (.sl [] .nil) ++ [(.v (.bool false))] ++ [(.v (.int .i64 0))] ++ [(.v (.string ⟨#[]⟩))] ++ [(.v (.bool false))] ++ [(.sl [] .nil)] ++ [(.v (.int .i64 0))] ++ [(.v (.int .u8 0))]) [(0, 1, (.const (.int .i64 5))), (1, 1, (.tmp 45)), (5, 1, (.tmp 47)), (4, 1, (.tmp 49))], none⟩ ::
⟨none, .store 13 (.tmp 2) (.tmp 50), none⟩ ::
[]))
.ret))
(.seq
(.plain (
⟨(some 51), .asrt 99 true (.agg [(.v (.string ⟨#[]⟩)), (.v (.bool false)), (.v (.int .i64 0)), (.sl [] .nil), (.v (.string ⟨#[]⟩)), (.v (.bool false)), (.sl [] .nil), (.v (.int .i64 0))]) (.tmp 10), none⟩ ::
⟨(some 52), .ext (.tmp 51) 1, none⟩ ::
⟨(some 53), .ext (.tmp 51) 0, none⟩ ::
[]))
(.cond (.tmp 52)
(.seq
(.plain (
⟨(some 8), .alloc 99 [(.v (.string ⟨#[]⟩)), (.v (.bool false)), (.v (.int .i64 0)), (.sl [] .nil), (.v (.string ⟨#[]⟩)), (.v (.bool false)), (.sl [] .nil), (.v (.int .i64 0))], none⟩ ::
⟨none, .store 8 (.tmp 8) (.tmp 53), none⟩ ::
[]))
(.seq
(.plain (
⟨(some 54), .fa 0 (.tmp 8), none⟩ ::
⟨(some 55), .load false 1 (.tmp 54), none⟩ ::
⟨(some 56), .fa 1 (.tmp 8), none⟩ ::
⟨(some 57), .load false 1 (.tmp 56), none⟩ ::
⟨(some 58), .fa 2 (.tmp 8), none⟩ ::
⟨(some 59), .load false 1 (.tmp 58), none⟩ ::
⟨(some 60), .fa 3 (.tmp 8), none⟩ ::
⟨(some 61), .load false 1 (.tmp 60), none⟩ ::
⟨(some 62), .fa 4 (.tmp 8), none⟩ ::
⟨(some 63), .load true 3 (.tmp 62), none⟩ ::
⟨(some 64), .fa 7 (.tmp 8), none⟩ ::
⟨(some 65), .load false 1 (.tmp 64), none⟩ ::
⟨(some 66), .bld ([(.v (.int .i64 0))] ++ [(.v (.string ⟨#[]⟩))] ++ List.replicate 4 (.sl [] .nil) ++ [(.v (.bool false))] ++ [(.v (.int .i64 0))] ++ [(.v (.string ⟨#[]⟩))] ++ [(.v (.bool false))] ++ [(.sl [] .nil)] ++ [(.v (.int .i64 0))] ++ [(.v (.int .u8 0))]) [(0, 1, (.const (.int .i64 6))), (1, 1, (.tmp 55)), (6, 1, (.tmp 57)), (7, 1, (.tmp 59)), (4, 1, (.tmp 61)), (8, 3, (.tmp 63)), (11, 1, (.tmp 65))], none⟩ ::
⟨none, .store 13 (.tmp 2) (.tmp 66), none⟩ ::
[]))
.ret))
(.seq
(.plain (
⟨(some 67), .asrt 101 true (.agg [(.v (.int .u8 0))]) (.tmp 10), none⟩ ::
⟨(some 68), .ext (.tmp 67) 1, none⟩ ::
⟨(some 69), .ext (.tmp 67) 0, none⟩ ::
[]))
(.cond (.tmp 68)
(.seq
(.plain (
⟨(some 9), .alloc 101 [(.v (.int .u8 0))], none⟩ ::
⟨none, .store 1 (.tmp 9) (.tmp 69), none⟩ ::
[]))
(.seq
(.plain (
⟨(some 70), .fa 0 (.tmp 9), none⟩ ::
⟨(some 71), .load false 1 (.tmp 70), none⟩ ::
⟨(some 72), .bld ([(.v (.int .i64 0))] ++ [(.v (.string ⟨#[]⟩))] ++ List.replicate 4 (.sl [] .nil) ++ [(.v (.bool false))] ++ [(.v (.int .i64 0))] ++ [(.v (.string ⟨#[]⟩))] ++ [(.v (.bool false))] ++ [(.sl [] .nil)] ++ [(.v (.int .i64 0))] ++ [(.v (.int .u8 0))]) [(0, 1, (.const (.int .i64 7))), (12, 1, (.tmp 71))], none⟩ ::
⟨none, .store 13 (.tmp 2) (.tmp 72), none⟩ ::
[]))
.ret))
.skip))))))))))))))))
(.seq
(.plain (
⟨(some 73), .bld ([(.v (.int .i64 0))] ++ [(.v (.string ⟨#[]⟩))] ++ List.replicate 4 (.sl [] .nil) ++ [(.v (.bool false))] ++ [(.v (.int .i64 0))] ++ [(.v (.string ⟨#[]⟩))] ++ [(.v (.bool false))] ++ [(.sl [] .nil)] ++ [(.v (.int .i64 0))] ++ [(.v (.int .u8 0))]) [], none⟩ ::
⟨none, .store 13 (.tmp 2) (.tmp 73), none⟩ ::
[]))
.ret)))
theorem prep14 : prepFunc Tryz.prog 0 14 = some F14 := by kernel_rfl
def F23 : AFunc where
  ntmps := 28
  nparams := 1
  results := [(2, none)]
  code :=
(.seq
(.plain (
⟨(some 2), .mv (.const (.string ⟨#[]⟩)), none⟩ ::
[]))
(.seq
(.plain (
⟨(some 5), .mv (.tmp 0), none⟩ ::
⟨(some 6), .cvt .u64 (.tmp 5), none⟩ ::
⟨(some 3), .mv (.tmp 6), none⟩ ::
[]))
(.seq
(.seq
(.plain (
⟨(some 7), .mv (.tmp 0), none⟩ ::
⟨(some 8), .bin .lss (.tmp 7) (.const (.int .i64 0)), none⟩ ::
[]))
(.cond (.tmp 8)
(.plain (
⟨(some 9), .mv (.tmp 3), none⟩ ::
⟨(some 10), .un .neg (.tmp 9), none⟩ ::
⟨(some 3), .mv (.tmp 10), none⟩ ::
[]))
.skip))
(.seq
(.plain (
⟨(some 4), .mv (.const (.string ⟨#[]⟩)), none⟩ ::
[]))
(.seq
(.block 0
(.loop
(.block 1
(.seq
(.plain (
⟨(some 11), .mv (.tmp 3), none⟩ ::
⟨(some 12), .bin .rem (.tmp 11) (.const (.int .u64 10)), none⟩ ::
⟨(some 13), .bin .add (.const (.int .u64 48)) (.tmp 12), none⟩ ::
⟨(some 14), .cvt .u8 (.tmp 13), none⟩ ::
⟨(some 15), .bsl 1 [(.tmp 14)], none⟩ ::
⟨(some 16), .b2s (.tmp 15), none⟩ ::
⟨(some 17), .mv (.tmp 4), none⟩ ::
⟨(some 18), .bin .add (.tmp 16) (.tmp 17), none⟩ ::
⟨(some 4), .mv (.tmp 18), none⟩ ::
[]))
(.seq
(.plain (
⟨(some 19), .mv (.tmp 3), none⟩ ::
⟨(some 20), .bin .quo (.tmp 19) (.const (.int .u64 10)), none⟩ ::
⟨(some 3), .mv (.tmp 20), none⟩ ::
[]))
(.seq
(.plain (
⟨(some 21), .mv (.tmp 3), none⟩ ::
⟨(some 22), .bin .eql (.tmp 21) (.const (.int .u64 0)), none⟩ ::
[]))
(.cond (.tmp 22)
(.exit 0)
.skip)))))))
(.seq
(.seq
(.plain (
⟨(some 23), .mv (.tmp 0), none⟩ ::
⟨(some 24), .bin .lss (.tmp 23) (.const (.int .i64 0)), none⟩ ::
[]))
(.cond (.tmp 24)
(.seq
(.plain (
⟨(some 25), .mv (.tmp 4), none⟩ ::
⟨(some 26), .bin .add (.const (.string ⟨#[45]⟩)) (.tmp 25), none⟩ ::
⟨(some 2), .mv (.tmp 26), none⟩ ::
[]))
.ret)
.skip))
(.seq
(.plain (
⟨(some 27), .mv (.tmp 4), none⟩ ::
⟨(some 2), .mv (.tmp 27), none⟩ ::
[]))
.ret)))))))
theorem prep23 : prepFunc Tryz.prog 0 23 = some F23 := by kernel_rfl
def F24 : AFunc where
  ntmps := 19
  nparams := 1
  results := [(2, none), (3, none)]
  code :=
(.seq
(.plain (
⟨(some 2), .mv (.const (.string ⟨#[]⟩)), none⟩ ::
⟨(some 3), .mv (.const (.bool false)), none⟩ ::
[]))
(.seq
(.plain (
⟨(some 5), .bld [(.sl [] .nil), (.v (.bool false))] [], none⟩ ::
⟨(some 6), .box 108 (.tmp 5), none⟩ ::
⟨(some 4), .mv (.tmp 6), none⟩ ::
[]))
(.seq
(.plain (
⟨(some 7), .mv (.tmp 4), none⟩ ::
⟨(some 8), .mv (.tmp 0), none⟩ ::
⟨(some 9), .callF 42 [(.tmp 7), (.tmp 8)], none⟩ ::
[]))
(.seq
(.seq
(.plain (
⟨(some 10), .mv (.tmp 4), none⟩ ::
⟨(some 11), .nilc (.tmp 10), none⟩ ::
⟨(some 12), .fa 1 (.tmp 11), none⟩ ::
⟨(some 13), .load false 1 (.tmp 12), none⟩ ::
[]))
(.cond (.tmp 13)
(.seq
(.plain (
⟨(some 2), .mv (.const (.string ⟨#[]⟩)), none⟩ ::
⟨(some 3), .mv (.const (.bool false)), none⟩ ::
[]))
.ret)
.skip))
(.seq
(.plain (
⟨(some 14), .mv (.tmp 4), none⟩ ::
⟨(some 15), .nilc (.tmp 14), none⟩ ::
⟨(some 16), .fa 0 (.tmp 15), none⟩ ::
⟨(some 17), .load false 1 (.tmp 16), none⟩ ::
⟨(some 18), .callF 43 [(.tmp 17), (.const (.string ⟨#[32]⟩))], none⟩ ::
⟨(some 2), .mv (.tmp 18), none⟩ ::
⟨(some 3), .mv (.const (.bool true)), none⟩ ::
[]))
.ret)))))
theorem prep24 : prepFunc Tryz.prog 0 24 = some F24 := by kernel_rfl
def F25 : AFunc where
  ntmps := 17
  nparams := 1
  results := [(2, none)]
  code :=
(.seq
(.plain (
⟨(some 2), .mv (.const (.bool false)), none⟩ ::
[]))
(.seq
(.plain (
⟨(some 3), .mv (.tmp 0), none⟩ ::
⟨(some 4), .bin .eql (.tmp 3) (.const (.int .u8 32)), none⟩ ::
⟨(some 5), .mv (.tmp 4), none⟩ ::
⟨(some 6), .mv (.tmp 0), (some (5, false))⟩ ::
⟨(some 7), .bin .eql (.tmp 6) (.const (.int .u8 9)), (some (5, false))⟩ ::
⟨(some 8), .pick (.tmp 5) (.const (.bool true)) (.tmp 7), none⟩ ::
⟨(some 9), .mv (.tmp 8), none⟩ ::
⟨(some 10), .mv (.tmp 0), (some (9, false))⟩ ::
⟨(some 11), .bin .eql (.tmp 10) (.const (.int .u8 10)), (some (9, false))⟩ ::
⟨(some 12), .pick (.tmp 9) (.const (.bool true)) (.tmp 11), none⟩ ::
⟨(some 13), .mv (.tmp 12), none⟩ ::
⟨(some 14), .mv (.tmp 0), (some (13, false))⟩ ::
⟨(some 15), .bin .eql (.tmp 14) (.const (.int .u8 13)), (some (13, false))⟩ ::
⟨(some 16), .pick (.tmp 13) (.const (.bool true)) (.tmp 15), none⟩ ::
⟨(some 2), .mv (.tmp 16), none⟩ ::
[]))
.ret))
theorem prep25 : prepFunc Tryz.prog 0 25 = some F25 := by kernel_rfl
def F26 : AFunc where
  ntmps := 17
  nparams := 1
  results := [(2, none)]
  code :=
(.seq
(.plain (
⟨(some 2), .mv (.const (.bool false)), none⟩ ::
[]))
(.seq
(.plain (
⟨(some 3), .mv (.tmp 0), none⟩ ::
⟨(some 4), .bin .geq (.tmp 3) (.const (.int .u8 97)), none⟩ ::
⟨(some 5), .mv (.tmp 4), none⟩ ::
⟨(some 6), .mv (.tmp 0), (some (5, true))⟩ ::
⟨(some 7), .bin .leq (.tmp 6) (.const (.int .u8 122)), (some (5, true))⟩ ::
⟨(some 8), .pick (.tmp 5) (.tmp 7) (.const (.bool false)), none⟩ ::
⟨(some 9), .mv (.tmp 8), none⟩ ::
⟨(some 10), .mv (.tmp 0), (some (9, false))⟩ ::
⟨(some 11), .bin .geq (.tmp 10) (.const (.int .u8 65)), (some (9, false))⟩ ::
⟨(some 12), .mv (.tmp 11), (some (9, false))⟩ ::
⟨(some 13), .mv (.tmp 0), (some (12, true))⟩ ::
⟨(some 14), .bin .leq (.tmp 13) (.const (.int .u8 90)), (some (12, true))⟩ ::
⟨(some 15), .pick (.tmp 12) (.tmp 14) (.const (.bool false)), (some (9, false))⟩ ::
⟨(some 16), .pick (.tmp 9) (.const (.bool true)) (.tmp 15), none⟩ ::
⟨(some 2), .mv (.tmp 16), none⟩ ::
[]))
.ret))
theorem prep26 : prepFunc Tryz.prog 0 26 = some F26 := by kernel_rfl
def F27 : AFunc where
  ntmps := 13
  nparams := 1
  results := [(2, none)]
  code :=
(.seq
(.plain (
⟨(some 2), .mv (.const (.bool false)), none⟩ ::
[]))
(.seq
(.plain (
⟨(some 3), .mv (.tmp 0), none⟩ ::
⟨(some 4), .callF 26 [(.tmp 3)], none⟩ ::
⟨(some 5), .mv (.tmp 4), none⟩ ::
⟨(some 6), .mv (.tmp 0), (some (5, false))⟩ ::
⟨(some 7), .callF 28 [(.tmp 6)], (some (5, false))⟩ ::
⟨(some 8), .pick (.tmp 5) (.const (.bool true)) (.tmp 7), none⟩ ::
⟨(some 9), .mv (.tmp 8), none⟩ ::
⟨(some 10), .mv (.tmp 0), (some (9, false))⟩ ::
⟨(some 11), .bin .eql (.tmp 10) (.const (.int .u8 95)), (some (9, false))⟩ ::
⟨(some 12), .pick (.tmp 9) (.const (.bool true)) (.tmp 11), none⟩ ::
⟨(some 2), .mv (.tmp 12), none⟩ ::
[]))
.ret))
theorem prep27 : prepFunc Tryz.prog 0 27 = some F27 := by kernel_rfl
def F28 : AFunc where
  ntmps := 9
  nparams := 1
  results := [(2, none)]
  code :=
(.seq
(.plain (
⟨(some 2), .mv (.const (.bool false)), none⟩ ::
[]))
(.seq
(.plain (
⟨(some 3), .mv (.tmp 0), none⟩ ::
⟨(some 4), .bin .geq (.tmp 3) (.const (.int .u8 48)), none⟩ ::
⟨(some 5), .mv (.tmp 4), none⟩ ::
⟨(some 6), .mv (.tmp 0), (some (5, true))⟩ ::
⟨(some 7), .bin .leq (.tmp 6) (.const (.int .u8 57)), (some (5, true))⟩ ::
⟨(some 8), .pick (.tmp 5) (.tmp 7) (.const (.bool false)), none⟩ ::
⟨(some 2), .mv (.tmp 8), none⟩ ::
[]))
.ret))
theorem prep28 : prepFunc Tryz.prog 0 28 = some F28 := by kernel_rfl
def F29 : AFunc where
  ntmps := 45
  nparams := 1
  results := [(2, none), (3, none)]
  code :=
(.seq
(.plain (
⟨(some 2), .mv (.const (.slice none 0 0)), none⟩ ::
⟨(some 3), .mv (.const (.int .i64 0)), none⟩ ::
[]))
(.seq
(.seq
(.plain (
⟨(some 9), .mv (.tmp 0), none⟩ ::
⟨(some 10), .lenT (.tmp 9), none⟩ ::
⟨(some 11), .bin .gtr (.tmp 10) (.const (.int .i64 1000)), none⟩ ::
[]))
(.cond (.tmp 11)
(.seq
(.plain (
⟨(some 2), .mv (.const (.slice none 0 0)), none⟩ ::
⟨(some 3), .mv (.const (.int .i64 10)), none⟩ ::
[]))
.ret)
.skip))
(.seq
(.plain (
⟨(some 4), .mv (.const (.slice none 0 0)), none⟩ ::
[]))
(.seq
(.seq
(.plain (
⟨(some 12), .mv (.tmp 0), none⟩ ::
⟨(some 13), .callF 44 [(.tmp 12)], none⟩ ::
⟨(some 5), .mv (.tmp 13), none⟩ ::
[]))
(.block 0
(.loop
(.seq
(.seq
(.plain (
⟨(some 14), .mv (.tmp 5), none⟩ ::
⟨(some 15), .mv (.tmp 0), none⟩ ::
⟨(some 16), .lenT (.tmp 15), none⟩ ::
⟨(some 17), .bin .lss (.tmp 14) (.tmp 16), none⟩ ::
[]))
(.cond (.tmp 17)
.skip
(.exit 0)))
(.seq
(.block 1
(.seq
(.plain (
⟨(some 25), .mv (.tmp 0), none⟩ ::
⟨(some 26), .mv (.tmp 5), none⟩ ::
⟨(some 27), .slcS (.tmp 25) (some (.tmp 26)) none, none⟩ ::
⟨(some 28), .callF 45 [(.tmp 27)], none⟩ ::
⟨(some 24), .mv (.tmp 28), none⟩ ::
⟨(some 29), .ext (.tmp 24) 0, none⟩ ::
⟨(some 30), .ext (.tmp 24) 1, none⟩ ::
⟨(some 31), .ext (.tmp 24) 2, none⟩ ::
⟨(some 6), .alloc 69 [(.v (.int .u8 0)), (.v (.string ⟨#[]⟩)), (.v (.int .i64 0)), (.v (.int .i64 0))], none⟩ ::
⟨none, .store 4 (.tmp 6) (.tmp 29), none⟩ ::
⟨(some 7), .mv (.tmp 30), none⟩ ::
⟨(some 8), .mv (.tmp 31), none⟩ ::
[]))
(.seq
(.seq
(.plain (
⟨(some 32), .mv (.tmp 8), none⟩ ::
⟨(some 33), .bin .neq (.tmp 32) (.const (.int .i64 0)), none⟩ ::
[]))
(.cond (.tmp 33)
(.seq
(.plain (
⟨(some 34), .mv (.tmp 8), none⟩ ::
⟨(some 2), .mv (.const (.slice none 0 0)), none⟩ ::
⟨(some 3), .mv (.tmp 34), none⟩ ::
[]))
.ret)
.skip))
(.seq
(.plain (
⟨(some 35), .mv (.tmp 5), none⟩ ::
⟨(some 36), .fa 3 (.tmp 6), none⟩ ::
⟨none, .store 1 (.tmp 36) (.tmp 35), none⟩ ::
[]))
(.seq
(.plain (
⟨(some 37), .mv (.tmp 4), none⟩ ::
⟨(some 38), .load true 4 (.tmp 6), none⟩ ::
⟨(some 39), .bsl 4 [(.tmp 38)], none⟩ ::
⟨(some 40), .app 4 40 (.tmp 37) (.tmp 39), none⟩ ::
⟨(some 4), .mv (.tmp 40), none⟩ ::
[]))
(.plain (
⟨(some 41), .mv (.tmp 5), none⟩ ::
⟨(some 42), .mv (.tmp 7), none⟩ ::
⟨(some 43), .bin .add (.tmp 41) (.tmp 42), none⟩ ::
⟨(some 5), .mv (.tmp 43), none⟩ ::
[])))))))
(.plain (
⟨(some 18), .mv (.tmp 5), none⟩ ::
⟨(some 19), .mv (.tmp 0), none⟩ ::
⟨(some 20), .mv (.tmp 5), none⟩ ::
⟨(some 21), .slcS (.tmp 19) (some (.tmp 20)) none, none⟩ ::
⟨(some 22), .callF 44 [(.tmp 21)], none⟩ ::
⟨(some 23), .bin .add (.tmp 18) (.tmp 22), none⟩ ::
⟨(some 5), .mv (.tmp 23), none⟩ ::
[])))))))
(.seq
(.plain (
⟨(some 44), .mv (.tmp 4), none⟩ ::
⟨(some 2), .mv (.tmp 44), none⟩ ::
⟨(some 3), .mv (.const (.int .i64 0)), none⟩ ::
[]))
.ret)))))
theorem prep29 : prepFunc Tryz.prog 0 29 = some F29 := by kernel_rfl
def F30 : RFunc where
  ntmps := 18
  nparams := 0
  dst := 5
  rest := (⟨(some 2), .mv (.tmp 5), none⟩ ::
[])
  post :=
(.seq
(.plain (
⟨(some 6), .mv (.tmp 2), none⟩ ::
⟨(some 7), .eqi true (.tmp 6), none⟩ ::
[]))
(.cond (.tmp 7)
(.seq
(.plain (
⟨(some 9), .mv (.tmp 2), none⟩ ::
⟨(some 10), .asrt 74 true (.agg [(.v (.int .i64 0))]) (.tmp 9), none⟩ ::
⟨(some 8), .mv (.tmp 10), none⟩ ::
⟨(some 11), .ext (.tmp 8) 0, none⟩ ::
⟨(some 12), .ext (.tmp 8) 1, none⟩ ::
⟨(some 3), .alloc 74 [(.v (.int .i64 0))], none⟩ ::
⟨none, .store 1 (.tmp 3) (.tmp 11), none⟩ ::
⟨(some 4), .mv (.tmp 12), none⟩ ::
[]))
(.seq
(.seq
(.plain (
⟨(some 13), .mv (.tmp 4), none⟩ ::
⟨(some 14), .un .not (.tmp 13), none⟩ ::
[]))
(.cond (.tmp 14)
(.plain (
⟨(some 15), .mv (.tmp 2), none⟩ ::
⟨none, .pan (.tmp 15), none⟩ ::
[]))
.skip))
(.draw (
⟨(some 16), .fa 0 (.tmp 3), none⟩ ::
⟨(some 17), .load false 1 (.tmp 16), none⟩ ::
⟨none, .store 1 (.tmp 0) (.const .nilIface), none⟩ ::
⟨none, .store 1 (.tmp 1) (.tmp 17), none⟩ ::
[])
(⟨0, [], []⟩ :: ⟨1, [], []⟩ :: ⟨2, [], [1]⟩ :: ⟨3, [], []⟩ :: []))))
.skip))
theorem prep30 : prepRec Tryz.prog 0 30 = some F30 := by kernel_rfl
def F31 : AFunc where
  ntmps := 72
  nparams := 2
  results := [(4, none)]
  code :=
(.seq
(.plain (
⟨(some 4), .mv (.const .nilIface), none⟩ ::
[]))
(.seq
(.block 0
(.seq
(.plain (
⟨(some 9), .mv (.tmp 0), none⟩ ::
⟨(some 10), .bsl 1 [(.const (.string ⟨#[99, 114, 101, 97, 116, 101]⟩)), (.const (.string ⟨#[116, 97, 98, 108, 101]⟩))], none⟩ ::
⟨(some 11), .callF 46 [(.tmp 9), (.tmp 10)], none⟩ ::
⟨(some 8), .mv (.tmp 11), none⟩ ::
[]))
(.cond (.tmp 8)
(.seq
(.plain (
⟨(some 12), .mv (.tmp 0), none⟩ ::
⟨(some 13), .callF 47 [(.tmp 12)], none⟩ ::
⟨(some 4), .mv (.tmp 13), none⟩ ::
[]))
.ret)
(.seq
(.plain (
⟨(some 15), .mv (.tmp 0), none⟩ ::
⟨(some 16), .bsl 1 [(.const (.string ⟨#[100, 114, 111, 112]⟩)), (.const (.string ⟨#[116, 97, 98, 108, 101]⟩))], none⟩ ::
⟨(some 17), .callF 46 [(.tmp 15), (.tmp 16)], none⟩ ::
⟨(some 14), .mv (.tmp 17), none⟩ ::
[]))
(.cond (.tmp 14)
(.seq
(.plain (
⟨(some 18), .mv (.tmp 0), none⟩ ::
⟨(some 19), .callF 48 [(.tmp 18)], none⟩ ::
⟨(some 20), .bld [(.v (.string ⟨#[]⟩))] [(0, 1, (.tmp 19))], none⟩ ::
⟨(some 21), .mki 91 (.tmp 20), none⟩ ::
⟨(some 4), .mv (.tmp 21), none⟩ ::
[]))
.ret)
(.seq
(.plain (
⟨(some 23), .mv (.tmp 0), none⟩ ::
⟨(some 24), .bsl 1 [(.const (.string ⟨#[105, 110, 115, 101, 114, 116]⟩)), (.const (.string ⟨#[105, 110, 116, 111]⟩))], none⟩ ::
⟨(some 25), .callF 46 [(.tmp 23), (.tmp 24)], none⟩ ::
⟨(some 22), .mv (.tmp 25), none⟩ ::
[]))
(.cond (.tmp 22)
(.seq
(.plain (
⟨(some 26), .mv (.tmp 0), none⟩ ::
⟨(some 27), .callF 49 [(.tmp 26)], none⟩ ::
⟨(some 4), .mv (.tmp 27), none⟩ ::
[]))
.ret)
(.seq
(.plain (
⟨(some 29), .mv (.tmp 0), none⟩ ::
⟨(some 30), .bsl 1 [(.const (.string ⟨#[100, 101, 108, 101, 116, 101]⟩)), (.const (.string ⟨#[102, 114, 111, 109]⟩))], none⟩ ::
⟨(some 31), .callF 46 [(.tmp 29), (.tmp 30)], none⟩ ::
⟨(some 28), .mv (.tmp 31), none⟩ ::
[]))
(.cond (.tmp 28)
(.seq
(.plain (
⟨(some 32), .mv (.tmp 0), none⟩ ::
⟨(some 33), .callF 48 [(.tmp 32)], none⟩ ::
⟨(some 34), .bld [(.v (.string ⟨#[]⟩)), (.sl [] .nil)] [(0, 1, (.tmp 33))], none⟩ ::
⟨(some 5), .alloc 95 [(.v (.string ⟨#[]⟩)), (.sl [] .nil)], none⟩ ::
⟨none, .store 2 (.tmp 5) (.tmp 34), none⟩ ::
[]))
(.seq
(.plain (
⟨(some 35), .mv (.tmp 0), none⟩ ::
⟨(some 36), .callF 50 [(.tmp 35)], none⟩ ::
⟨(some 37), .fa 1 (.tmp 5), none⟩ ::
⟨none, .store 1 (.tmp 37) (.tmp 36), none⟩ ::
[]))
(.seq
(.plain (
⟨(some 38), .load true 2 (.tmp 5), none⟩ ::
⟨(some 39), .mki 95 (.tmp 38), none⟩ ::
⟨(some 4), .mv (.tmp 39), none⟩ ::
[]))
.ret)))
(.seq
(.plain (
⟨(some 41), .mv (.tmp 0), none⟩ ::
⟨(some 42), .bsl 1 [(.const (.string ⟨#[117, 112, 100, 97, 116, 101]⟩))], none⟩ ::
⟨(some 43), .callF 46 [(.tmp 41), (.tmp 42)], none⟩ ::
⟨(some 40), .mv (.tmp 43), none⟩ ::
[]))
(.cond (.tmp 40)
(.seq
(.plain (
⟨(some 44), .mv (.tmp 0), none⟩ ::
⟨(some 45), .callF 51 [(.tmp 44)], none⟩ ::
⟨(some 4), .mv (.tmp 45), none⟩ ::
[]))
.ret)
(.seq
(.plain (
⟨(some 47), .mv (.tmp 0), none⟩ ::
⟨(some 48), .bsl 1 [(.const (.string ⟨#[115, 101, 108, 101, 99, 116]⟩))], none⟩ ::
⟨(some 49), .callF 46 [(.tmp 47), (.tmp 48)], none⟩ ::
⟨(some 46), .mv (.tmp 49), none⟩ ::
[]))
(.cond (.tmp 46)
(.seq
(.plain (
⟨(some 50), .mv (.tmp 0), none⟩ ::
⟨(some 51), .mv (.tmp 1), none⟩ ::
⟨(some 52), .callF 52 [(.tmp 50), (.tmp 51)], none⟩ ::
⟨(some 4), .mv (.tmp 52), none⟩ ::
[]))
.ret)
.skip)))))))))))))
(.seq
(.seq
(.plain (
⟨(some 53), .bld (List.replicate 4 (.v (.string ⟨#[]⟩))) [(1, 1, (.const (.string ⟨#[98, 101, 103, 105, 110]⟩))), (2, 1, (.const (.string ⟨#[99, 111, 109, 109, 105, 116]⟩))), (3, 1, (.const (.string ⟨#[114, 111, 108, 108, 98, 97, 99, 107]⟩)))], none⟩ ::
⟨(some 54), .mv (.const (.int .i64 0)), none⟩ ::
[]))
(.block 1
(.loop
(.seq
(.plain (
⟨(some 55), .bin .lss (.tmp 54) (.const (.int .i64 4)), none⟩ ::
[]))
(.seq
(.cond (.tmp 55)
.skip
(.exit 1))
(.seq
(.block 2
(.seq
(.plain (
⟨(some 56), .mv (.tmp 54), none⟩ ::
⟨(some 57), .idxA false 1 4 (.tmp 53) (.tmp 54), none⟩ ::
⟨(some 6), .mv (.tmp 56), none⟩ ::
⟨(some 7), .mv (.tmp 57), none⟩ ::
[]))
(.seq
(.plain (
⟨(some 58), .mv (.tmp 6), none⟩ ::
⟨(some 59), .bin .gtr (.tmp 58) (.const (.int .i64 0)), none⟩ ::
⟨(some 60), .mv (.tmp 59), none⟩ ::
⟨(some 61), .mv (.tmp 0), (some (60, true))⟩ ::
⟨(some 62), .mv (.tmp 7), (some (60, true))⟩ ::
⟨(some 63), .bsl 1 [(.tmp 62)], (some (60, true))⟩ ::
⟨(some 64), .callF 46 [(.tmp 61), (.tmp 63)], (some (60, true))⟩ ::
⟨(some 65), .pick (.tmp 60) (.tmp 64) (.const (.bool false)), none⟩ ::
[]))
(.cond (.tmp 65)
(.seq
(.plain (
⟨(some 66), .mv (.tmp 6), none⟩ ::
⟨(some 67), .cvt .u8 (.tmp 66), none⟩ ::
⟨(some 68), .bld [(.v (.int .u8 0))] [(0, 1, (.tmp 67))], none⟩ ::
⟨(some 69), .mki 101 (.tmp 68), none⟩ ::
⟨(some 4), .mv (.tmp 69), none⟩ ::
[]))
.ret)
.skip))))
(.plain (
⟨(some 70), .bin .add (.tmp 54) (.const (.int .i64 1)), none⟩ ::
⟨(some 54), .mv (.tmp 70), none⟩ ::
[]))))))))
(.seq
(.plain (
⟨(some 71), .callF 32 [], none⟩ ::
[]))
(.seq
(.plain (
⟨(some 4), .mv (.const .nilIface), none⟩ ::
[]))
.ret)))))
theorem prep31 : prepFunc Tryz.prog 0 31 = some F31 := by kernel_rfl
def F32 : AFunc where
  ntmps := 2
  nparams := 0
  results := []
  code :=
(.plain (
⟨(some 0), .bld [(.v (.int .i64 0))] [(0, 1, (.const (.int .i64 2)))], none⟩ ::
⟨(some 1), .mki 74 (.tmp 0), none⟩ ::
⟨none, .pan (.tmp 1), none⟩ ::
[]))
theorem prep32 : prepFunc Tryz.prog 0 32 = some F32 := by kernel_rfl
def F33 : AFunc where
  ntmps := 9
  nparams := 2
  results := [(4, none)]
  code :=
(.seq
(.plain (
⟨(some 4), .mv (.const (.bool false)), none⟩ ::
[]))
(.seq
(.plain (
⟨(some 5), .mv (.tmp 0), none⟩ ::
⟨(some 6), .mv (.tmp 1), none⟩ ::
⟨(some 7), .callF 53 [(.tmp 5), (.tmp 6)], none⟩ ::
⟨(some 8), .bin .geq (.tmp 7) (.const (.int .i64 0)), none⟩ ::
⟨(some 4), .mv (.tmp 8), none⟩ ::
[]))
.ret))
theorem prep33 : prepFunc Tryz.prog 0 33 = some F33 := by kernel_rfl
def F34 : AFunc where
  ntmps := 5
  nparams := 1
  results := [(2, none)]
  code :=
(.seq
(.plain (
⟨(some 2), .mv (.const (.bool false)), none⟩ ::
[]))
(.seq
(.plain (
⟨(some 3), .mv (.tmp 0), none⟩ ::
⟨(some 4), .bin .lss (.tmp 3) (.const (.int .i64 0)), none⟩ ::
⟨(some 2), .mv (.tmp 4), none⟩ ::
[]))
.ret))
theorem prep34 : prepFunc Tryz.prog 0 34 = some F34 := by kernel_rfl
def F35 : AFunc where
  ntmps := 26
  nparams := 2
  results := [(4, none)]
  code :=
(.seq
(.plain (
⟨(some 4), .mv (.const (.bool false)), none⟩ ::
[]))
(.seq
(.seq
(.plain (
⟨(some 6), .mv (.tmp 0), none⟩ ::
⟨(some 7), .len (.tmp 6), none⟩ ::
⟨(some 8), .mv (.tmp 1), none⟩ ::
⟨(some 9), .len (.tmp 8), none⟩ ::
⟨(some 10), .bin .neq (.tmp 7) (.tmp 9), none⟩ ::
[]))
(.cond (.tmp 10)
(.seq
(.plain (
⟨(some 4), .mv (.const (.bool false)), none⟩ ::
[]))
.ret)
.skip))
(.seq
(.seq
(.plain (
⟨(some 5), .mv (.const (.int .i64 0)), none⟩ ::
[]))
(.block 0
(.loop
(.seq
(.seq
(.plain (
⟨(some 11), .mv (.tmp 5), none⟩ ::
⟨(some 12), .mv (.tmp 0), none⟩ ::
⟨(some 13), .len (.tmp 12), none⟩ ::
⟨(some 14), .bin .lss (.tmp 11) (.tmp 13), none⟩ ::
[]))
(.cond (.tmp 14)
.skip
(.exit 0)))
(.seq
(.block 1
(.seq
(.draw (
⟨(some 17), .mv (.tmp 0), none⟩ ::
⟨(some 18), .mv (.tmp 5), none⟩ ::
⟨(some 19), .iaS 1 (.tmp 17) (.tmp 18), none⟩ ::
⟨(some 20), .load false 1 (.tmp 19), none⟩ ::
⟨(some 21), .mv (.tmp 1), none⟩ ::
⟨(some 22), .mv (.tmp 5), none⟩ ::
⟨(some 23), .iaS 1 (.tmp 21) (.tmp 22), none⟩ ::
⟨(some 24), .load false 1 (.tmp 23), none⟩ ::
⟨(some 25), .bin .neq (.tmp 20) (.tmp 24), none⟩ ::
[])
(⟨0, [], []⟩ :: ⟨1, [], []⟩ :: ⟨2, [], []⟩ :: ⟨3, [], []⟩ :: ⟨4, [], []⟩ :: ⟨5, [], []⟩ :: ⟨6, [], []⟩ :: ⟨7, [], []⟩ :: ⟨8, [], []⟩ :: []))
(.cond (.tmp 25)
(.seq
(.plain (
⟨(some 4), .mv (.const (.bool false)), none⟩ ::
[]))
.ret)
.skip)))
(.plain (
⟨(some 15), .mv (.tmp 5), none⟩ ::
⟨(some 16), .bin .add (.tmp 15) (.const (.int .i64 1)), none⟩ ::
⟨(some 5), .mv (.tmp 16), none⟩ ::
[])))))))
(.seq
(.plain (
⟨(some 4), .mv (.const (.bool true)), none⟩ ::
[]))
.ret))))
theorem prep35 : prepFunc Tryz.prog 1 35 = some F35 := by kernel_rfl
end Go.Proofs.YtgfbealjkdhdbaaGreatDoor
