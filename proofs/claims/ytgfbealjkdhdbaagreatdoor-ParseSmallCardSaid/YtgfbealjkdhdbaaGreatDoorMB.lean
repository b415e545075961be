/- Merged by program from smaller texts; what is proved stands in the last text of the claim. -/
import Derived.Test.YtgfbealjkdhdbaaGreatDoorMA
import Derived.Laws.Cover3
import Derived.WalkSmall
import Derived.LaidEql
import Derived.Lib.Builder
import Derived.Lib.UnsafeStr
import Derived.MapKept
import Derived.WideKeyRuns
import Derived.Laws.Externs
import Derived.KernelRfl
set_option linter.all false
namespace Go.Av
open Go
section
variable {P : Program} {kp : AV → Hp → Prop} {o : Oper} {a : Act} {w : World} {H : PH} {s : Hp} {K : AV → Hp → Prop} {f : Fr}
theorem Hp.set_set (s : Hp) (l : Nat) (o o' : Ob) : (s.set l o).set l o' = s.set l o' := by
  funext x; simp only [Hp.set]; split <;> rfl
theorem s_boxR (T : TypeId) (x : Operand) (ho : o.op = .box T x) (hx : opOk x = true) (hf : FRel H a f) (hh : Holds H s w) (hG : G ⟨P, kp⟩ (.boxR T x) f s K) : GoalW P kp o a w H s K := by
  obtain ⟨hr, hone⟩ := (hf.ev x hx).cells hG.1
  have st := Step.new hh (a.eval x).cells T _ hone hr
  obtain ⟨H', st2⟩ := Step.freeze st.holds (Hp.set_same s w.heap.size (.cells (ev f x).cells))
  rw [Hp.set_set] at st2
  refine .value (v := .pointer (some ⟨w.heap.size, 0, none⟩)) (w' := w.alloc (.cells (a.eval x).cells T)) ?_ (st.trans st2) (.ptr _ _) (hG.2 _ hh.newS)
  simp [execOp, ho, Instr.box, newVar, newRow]
theorem s_slcR (t : TypeId) (x : Operand) (lo hi : Option Operand) (ho : o.op = .slice t x lo hi none) (n : Nat) (e : TypeId) (hu : P.underlying t = some (.array n e)) (k : Nat) (hk : (P.info? e).map (·.size) = some k) (h0k : 0 < k) (hx : opOk x = true) (hlo : lo.all opOk = true)
    (hhi : hi.all opOk = true) (hf : FRel H a f) (hh : Holds H s w) (hG : G ⟨P, kp⟩ (.slcR k n x lo hi) f s K) : GoalW P kp o a w H s K := by
  refine s_slcA t x lo hi ho n e hu k hk h0k true hx hlo hhi hf hh ?_
  simp only [G] at hG ⊢
  split at hG
  case h_2 => exact hG.elim
  rename_i l off he
  split at hG
  case h_2 => exact hG.elim
  refine ⟨hG.1, hG.2.1, hG.2.2.1, ?_⟩
  have h3 := hG.2.2.2
  split at h3
  case h_2 => exact h3.elim
  rename_i cs hcs
  have : s.read l = some cs := by simp [Hp.read, hcs]
  rw [this]
  refine ⟨h3.1, ?_⟩
  rw [if_pos (by trivial), ro_set_self hcs]
  exact h3.2
theorem s_mm (mx : Bool) (k : IntKind) (x y : Operand) (ats : Array TypeId) (ho : o.op = .call { callee := .builtin (if mx then .max else .min), args := #[x, y], argTypes := ats }) (hx : opOk x = true) (hy : opOk y = true) (hf : FRel H a f) (hh : Holds H s w) (hG : G ⟨P, kp⟩ (.mm mx k x y) f s K) : GoalW P kp o a w H s K := by
  have hv := hf.ev x hx
  have hvy := hf.ev y hy
  simp only [G] at hG
  split at hG
  case h_2 => exact hG.elim
  rename_i k1 b k2 c he hey
  rw [he] at hv; rw [hey] at hvy
  have hval := hv.ev_v; have hvaly := hvy.ev_v
  obtain ⟨rfl, hK⟩ := hG
  cases mx
  · refine .same hh (v := .int k1 (min b c)) ?_ (.v _ rfl) (by simpa using hK)
    simp only [execOp, ho, resolve, invoke, builtin, Bool.false_eq_true, if_false, Sem.run_bind, Sem.run_pure, Result.andThen_ok, List.map_toArray, List.map_cons, List.map_nil, hval, hvaly, run_min_int2]
    have : (if c < b then c else b) = min b c := by omega
    rw [this]
  · refine .same hh (v := .int k1 (max b c)) ?_ (.v _ rfl) (by simpa using hK)
    simp only [execOp, ho, resolve, invoke, builtin, if_true, Sem.run_bind, Sem.run_pure, Result.andThen_ok, List.map_toArray, List.map_cons, List.map_nil, hval, hvaly, run_max_int2]
    have : (if c > b then c else b) = max b c := by omega
    rw [this]
theorem bytesOf_some : ∀ {xs : List AV} {l : List UInt8}, bytesOf xs = some l → xs = l.map byteAV
  | [], l, h => by simp only [bytesOf, Option.some.injEq] at h; subst h; rfl
  | x :: xs, l, h => by
    simp only [bytesOf] at h
    split at h
    case h_2 => cases h
    rename_i b bs hb hbs
    obtain rfl := Option.some.inj h
    rw [bytesOf_some hbs, List.map_cons]
    congr 1
    unfold byteOf at hb
    split at hb
    · rename_i n
      split at hb
      · rename_i hn
        obtain rfl := Option.some.inj hb
        simp only [byteAV]
        congr 2
        have : n.toNat < 256 := by omega
        simp [Nat.mod_eq_of_lt this]
        omega
      · cases hb
    · cases hb
theorem flat_bytes (l : List UInt8) : flat (l.map byteAV) = l.map byteAV := by
  induction l with
  | nil => rfl
  | cons b l ih => simp only [flat, List.map_cons, List.flatMap_cons] at ih ⊢; rw [ih]; rfl
theorem s_b2s (st dt : TypeId) (x : Operand) (ho : o.op = .convert st dt x) (e : TypeId) (hs : P.underlying st = some (.slice e)) (he8 : P.underlying e = some (.int .u8)) (hd : P.underlying dt = some .string) (hx : opOk x = true) (hf : FRel H a f) (hh : Holds H s w) (hG : G ⟨P, kp⟩ (.b2s x) f s K) : GoalW P kp o a w H s K := by
  have hv := hf.ev x hx
  simp only [G] at hG
  split at hG
  case h_2 => exact hG.elim
  rename_i xs ow he
  rw [he] at hv
  split at hG
  case h_2 => exact hG.elim
  rename_i l hl
  have hxs := bytesOf_some hl
  subst hxs
  generalize hav : a.eval x = xv at hv
  have hfin : ∀ xv, (convert st dt xv).run P w = .ok (.string ⟨l.toArray⟩) w → a.eval x = xv → GoalW P kp o a w H s K := fun xv hrun hxv =>
    .same hh (v := .string ⟨l.toArray⟩) (by simp [execOp, ho, hxv, hrun]) (.v _ rfl) hG
  cases hl0 : l with
  | nil =>
    subst hl0
    cases hv with
    | slEmpty ad cap ow ha hok =>
      refine hfin _ ?_ hav
      rw [run_convert_bytes_string w st dt e ad 0 cap hs he8 hd]
      cases ad with
      | none => simp [Conv.bytesToString]; rfl
      | some ad =>
        have := run_bytesToString (P := P) w ad 0 cap [] (by simp [loadCells, loadCellsFrom])
        rw [this]; rfl
    | sl b off len cap k vals xs ow hk hlen hcap hel hone hH hR hok =>
      refine hfin _ ?_ hav
      subst hlen
      rw [run_convert_bytes_string w st dt e _ _ cap hs he8 hd]
      have := run_bytesToString (P := P) w ⟨b, off, none⟩ 0 cap [] (by simp [loadCells, loadCellsFrom])
      simp only [List.map_nil, List.length_nil]
      rw [this]; rfl
  | cons b0 l0 =>
    obtain ⟨b, off, cap, k, vals, hval, hk, hcap, hels, hone, hH, hR, _⟩ := hv.sl_cells (by rw [hl0]; simp)
    have hk1 : k = 1 := by
      have := hels (byteAV b0) (by rw [hl0]; simp)
      rw [← this]; rfl
    subst hk1
    refine hfin xv ?_ hav
    rw [hval]
    have hb := run_convert_bytes_arg (P := P) w st e hs he8 b off (l.map byteAV).length cap (l.map fun b => (b.toNat : Int)) (by simp) (fun i hi => by
      have hi' : i < l.length := by simpa using hi
      have h1 := hh.ro _ _ _ (hH i (by simpa using hi'))
      rw [h1]
      have h2 := hR i (byteAV l[i]) (by rw [flat_bytes]; simp [hi'])
      have h3 : vals i = .int .u8 (l[i].toNat) := by unfold byteAV at h2; exact h2.ev_v
      rw [h3]
      simp [List.getD, hi']) dt hd
    rw [hb]
    congr 2
    simp only [strOfNums]
    congr 1
    rw [List.map_map]
    congr 1
    conv => rhs; rw [← List.map_id l]
    apply List.map_congr_left
    intro x _
    simp
theorem rep_get {α : Type} (l : List α) : ∀ (n j : Nat), j < n * l.length → (List.replicate n l).flatten[j]? = l[j % l.length]?
  | 0, j, h => by simp at h
  | n + 1, j, h => by
    rw [List.replicate_succ, List.flatten_cons]
    by_cases hj : j < l.length
    · rw [List.getElem?_append_left hj, Nat.mod_eq_of_lt hj]
    · rw [List.getElem?_append_right (by omega), rep_get l n (j - l.length) (by rw [Nat.succ_mul] at h; omega)]
      rw [show j % l.length = (j - l.length) % l.length from Nat.mod_eq_sub_mod (by omega)]
theorem rep_length {α : Type} (l : List α) (n : Nat) : (List.replicate n l).flatten.length = n * l.length := by
  induction n with
  | zero => simp
  | succ n ih => rw [List.replicate_succ, List.flatten_cons, List.length_append, ih, Nat.add_mul, Nat.one_mul, Nat.add_comm]
theorem s_mks (t : TypeId) (x y : Operand) (ho : o.op = .makeSlice t x y) (e : TypeId) (hu : P.underlying t = some (.slice e)) (i : TypeInfo) (hi : P.info? e = some i) (z : Value) (hz : i.zero = some z) (hzs : z.cells.size = i.size) (hzone : ∀ x ∈ z.cells.toList, x.oneCell' = true) (hk : 0 < i.size)
    (hx : opOk x = true) (hy : opOk y = true) (hf : FRel H a f) (hh : Holds H s w) (hG : G ⟨P, kp⟩ (.mks i.size i.bytes (z.cells.toList.map ofCell) x y) f s K) : GoalW P kp o a w H s K := by
  have hv := hf.ev x hx
  have hvy := hf.ev y hy
  simp only [G] at hG
  split at hG
  case h_2 => exact hG.elim
  rename_i k1 n k2 m he hey
  rw [he] at hv; rw [hey] at hvy
  have hval := hv.ev_v; have hvaly := hvy.ev_v
  obtain ⟨rfl, h0, h63, hby, hK⟩ := hG
  have hr := run_make (P := P) w t e i z hu hi hz k1 k2 n n h0 (Int.le_refl _) (by rw [Int.mul_comm]; exact hby) h63
  have hrva : RVA H (madeCells z.cells (n.toNat * i.size)) (List.replicate n.toNat (z.cells.toList.map ofCell)).flatten := by
    have hl0 : (z.cells.toList.map ofCell).length = i.size := by simp [hzs]
    refine RVA.iff_list.2 ⟨by simp [size_madeCells, rep_length, hzs], fun j x u hxj huj => ?_⟩
    have hj : j < n.toNat * i.size := by
      have := (List.getElem?_eq_some_iff.1 huj).1
      rw [rep_length, hl0] at this; exact this
    rw [rep_get _ _ _ (by rw [hl0]; exact hj), hl0, List.getElem?_map] at huj
    rw [Array.getElem?_toList] at hxj
    have hmod : j % i.size < z.cells.size := by rw [hzs]; exact Nat.mod_lt _ hk
    simp only [madeCells, hzs] at hxj
    rw [Array.getElem?_map] at hxj
    simp only [Array.getElem?_range, hj, if_true, Option.map_some, Option.some.injEq] at hxj
    rw [getElem!_pos z.cells _ hmod] at hxj
    rw [Array.getElem?_toList, Array.getElem?_eq_getElem hmod] at huj
    simp only [Option.map_some, Option.some.injEq] at huj
    subst hxj; subst huj
    exact RV.ofCell H _ (hzone _ (by simp))
  refine .value (v := .slice (some ⟨w.heap.size, 0, none⟩) n.toNat n.toNat) (by simp [execOp, ho, hval, hvaly, hr]) (Step.new hh _ e _ (fun c hc => ?_) hrva) (.mb _ _ _ _ hk (Nat.le_refl _)) (hK _ hh.newS)
  obtain ⟨l, hl, hc⟩ := List.mem_flatten.1 hc
  obtain rfl := (List.mem_replicate.1 hl).2
  obtain ⟨x, _, rfl⟩ := List.mem_map.1 hc
  exact ofCell_one x
theorem s_cpy (t t' : TypeId) (x y : Operand) (ho : o.op = .call { callee := .builtin .copy, args := #[x, y], argTypes := #[t, t'] }) (e : TypeId) (hu : P.underlying t = some (.slice e)) (k : Nat) (hk : (P.info? e).map (·.size) = some k)
    (hx : opOk x = true) (hy : opOk y = true) (hf : FRel H a f) (hh : Holds H s w) (hG : G ⟨P, kp⟩ (.cpy k x y) f s K) : GoalW P kp o a w H s K := by
  have hv := hf.ev x hx
  have hvy := hf.ev y hy
  simp only [G] at hG
  have main : ∀ (l off n cap k' : Nat) (ys cs : List AV) (ow' : Own), RV H (a.eval y) (.sl ys ow') → a.eval x = .slice (some ⟨l, off, none⟩) n cap → k' = k → (∀ e ∈ ys, e.cells.length = k) → s l = some (.cells cs) → off + n * k ≤ cs.length →
      K (.v (.int .i64 (min ys.length n))) (s.set l (.cells (putAt cs off (flat (ys.take n))))) → GoalW P kp o a w H s K := by
    intro l off n cap k' ys cs ow' hvy hav hkk' hel hcs hle hK
    subst hkk'
    have hely : ∀ e ∈ ys.take n, e.cells.length = k' := fun e he => hel e (List.mem_of_mem_take he)
    have hfl : (flat (ys.take n)).length = (min ys.length n) * k' := by rw [flat_length hely, List.length_take, Nat.min_comm]
    have hmin : min ys.length n * k' ≤ n * k' := Nat.mul_le_mul_right _ (by omega)
    -- the source's first cells
    have hsrc : ∃ us : Array Value, (Builtin.firstCells k' (min ys.length n) (a.eval y)).run P w = .ok us w ∧ RVA H us (flat (ys.take n)) ∧ (∀ c ∈ flat (ys.take n), c.one = true) ∧ (Builtin.lenOf (a.eval y)).run P w = .ok ys.length w := by
      obtain ⟨news, hs, hnl, hnr, hnone⟩ := hvy.src hh hel P
      have hft : flat (ys.take n) = (flat ys).take (n * k') := ((flat_drop_take n hel).2).symm
      have hlen : (flat ys).length = ys.length * k' := flat_length hel
      generalize hay : a.eval y = yv at hvy hs
      have hcells : (Builtin.firstCells k' (min ys.length n) yv).run P w = .ok (news.take (min ys.length n * k')).toArray w := by
        cases hvy with
        | slEmpty ad cap' ow ha hok =>
          have : news = [] := List.eq_nil_of_length_eq_zero (by rw [hnl]; simp [flat])
          subst this
          cases ad <;> simp [Builtin.firstCells, loadCells, loadCellsFrom]
        | sl b off' len cap' k2 vals xs ow hk2 hlen2 hcap2 hel2 hone2 hH hR hok =>
          subst hlen2
          have hnews : ∀ j v, news[j]? = some v → w.cell? ((⟨b, off', none⟩ : Addr).add j) = some v := by
            intro j v hj
            have hjl : j < (flat ys).length := by rw [← hnl]; exact (List.getElem?_eq_some_iff.1 hj).1
            have hc := hs.cells
            by_cases hys : ys = []
            · subst hys; simp [flat] at hjl
            have hkk2 : k2 = k' := by
              match ys, hys with
              | y0 :: r, _ => exact (hel2 y0 (by simp)).symm.trans (hel y0 (by simp))
            subst hkk2
            have hrun := run_firstCells_some (P := P) w k2 ys.length ⟨b, off', none⟩ ys.length cap' ((List.range (ys.length * k2)).map vals) (by simp) (fun j v hv => by
              have hj : j < ys.length * k2 := by have := (List.getElem?_eq_some_iff.1 hv).1; simpa using this
              rw [List.getElem?_map, List.getElem?_range hj] at hv
              obtain rfl : vals j = v := by simpa using hv
              rw [Addr_add]; exact hh.ro _ _ _ (hH j hj))
            rw [hrun] at hc
            simp only [Result.ok.injEq, and_true] at hc
            have hc' : (List.range (ys.length * k2)).map vals = news := by simpa using congrArg Array.toList hc
            rw [← hc', List.getElem?_map, List.getElem?_range (by omega)] at hj
            obtain rfl : vals j = v := by simpa using hj
            rw [Addr_add]; exact hh.ro _ _ _ (hH j (by omega))
          refine run_firstCells_some (P := P) w k' (min ys.length n) ⟨b, off', none⟩ ys.length cap' _ ?_ (fun j v hv => hnews j v (by
            rw [List.getElem?_take] at hv
            split at hv
            · exact hv
            · cases hv))
          have h1 : min ys.length n * k' ≤ ys.length * k' := Nat.mul_le_mul_right _ (by omega)
          simp; omega
      refine ⟨_, hcells, RVA.iff_list.2 ⟨?_, fun j x u hxj huj => ?_⟩, fun c hc => hnone c (by rw [hft] at hc; exact List.mem_of_mem_take hc), hs.len⟩
      · have h1 : min ys.length n * k' ≤ ys.length * k' := Nat.mul_le_mul_right _ (by omega)
        simp [hfl]; omega
      · have hj : j < min ys.length n * k' := by rw [← hfl]; exact (List.getElem?_eq_some_iff.1 huj).1
        rw [hft, List.getElem?_take_of_lt (by omega)] at huj
        simp only [List.toList_toArray] at hxj
        rw [List.getElem?_take_of_lt hj] at hxj
        have := hnr j u huj
        rw [List.getD_eq_getElem?_getD, hxj] at this
        exact this
    obtain ⟨us, hus, hru, hone, hlenr⟩ := hsrc
    obtain ⟨vs, T, hb, hsz, hst⟩ := Step.store hh hcs off (flat (ys.take n)) us hru hone (by omega)
    refine .value (v := .int .i64 (min ys.length n)) ?_ hst (.v _ rfl) hK
    have hstore := run_storeCells_at P l off T us.toList 0 vs w hb (by have := hru.1; simp; omega) (hru.oneCell hone)
    simp only [Nat.add_zero] at hstore
    have hstore' : (storeCells ⟨l, off, none⟩ us.toList).run P w = .ok () (w.setRow l (vput vs off us.toList)) := by rw [hstore]; rfl
    cases hq : P.info? e with
    | none => simp [hq] at hk
    | some ii =>
      have hs : ii.size = k' := by simpa [hq] using hk
      have hmm : Nat.min ys.length n = min ys.length n := rfl
      simp [execOp, ho, resolve, invoke, builtin, hav, Builtin.copy_, run_underlying hu, hlenr, sizeOf, typeInfo, hq, hs, hmm, hus, hstore', goInt]
      omega
  split at hG
  · rename_i l off n k' ys ow' he hey
    rw [he] at hv; rw [hey] at hvy
    obtain ⟨rfl, hel, hG⟩ := hG
    split at hG
    case h_2 => exact hG.elim
    rename_i cs hcs
    generalize hav : a.eval x = xv at hv
    cases hv with
    | msl l off n cap k' hkk hcap => exact main l off n cap k' ys cs ow' hvy hav rfl hel hcs hG.1 hG.2
  · rename_i l n cap k' ys ow' he hey
    rw [he] at hv; rw [hey] at hvy
    obtain ⟨rfl, hel, hG⟩ := hG
    split at hG
    case h_2 => exact hG.elim
    rename_i cs hcs
    generalize hav : a.eval x = xv at hv
    cases hv with
    | mb l n cap k' hkk hcap => exact main l 0 n cap k' ys cs ow' hvy hav rfl hel hcs (by have := hG.1; omega) hG.2
  · exact hG.elim
theorem s_eqn (neg : Bool) (t : TypeId) (x : Operand) (yt : TypeId) (ho : o.op = .binOp (if neg then .neq else .eql) t x (.const (.slice none 0 0)) yt) (e : TypeId) (hu : P.underlying t = some (.slice e)) (hx : opOk x = true) (hf : FRel H a f) (hh : Holds H s w)
    (hG : G ⟨P, kp⟩ (.eqn neg x) f s K) : GoalW P kp o a w H s K := by
  have hv := hf.ev x hx
  have hc : ∀ v, a.eval (.const v) = v := fun _ => rfl
  have hrun : ∀ ad n c, a.eval x = .slice ad n c → (execOp a.eval o).run P w = .ok (.value (.bool (xor neg ad.isNone))) w := fun ad n c hav => by
    have k1 := run_equalIn_slice_nil (P := P) w 9999 t e ad n c hu
    cases neg
    · simp [execOp, ho, hav, hc, eqGuard, binOp, Op.equal, Op.maxDepth, k1]
    · simp [execOp, ho, hav, hc, eqGuard, binOp, Op.equal, Op.maxDepth, k1]
  simp only [G] at hG
  split at hG
  case h_3 => exact hG.elim
  case h_2 =>
    rename_i l n cap k he
    rw [he] at hv
    generalize hav : a.eval x = xv at hv
    cases hv with
    | mb l n cap k hkk hcap => exact .same hh (hrun _ n cap hav) (.v _ rfl) (by simpa using hG)
  rename_i xs ow he
  rw [he] at hv
  generalize hav : a.eval x = xv at hv
  cases hv with
  | slEmpty ad cap ow ha hok =>
    have hr := hrun ad 0 cap hav
    cases ow with
    | nil => simp only [Own.okEmpty] at hok; subst hok; exact .same hh hr (.v _ rfl) (by simpa using hG)
    | buf g c => exact hok.elim
    | any => cases ad with
      | none => exact .same hh hr (.v _ rfl) (by simpa using hG.1 rfl)
      | some ad => exact .same hh hr (.v _ rfl) (by simpa using hG.2)
    | zero => cases ad with
      | none => exact .same hh hr (.v _ rfl) (by simpa using hG.1 rfl)
      | some ad => exact .same hh hr (.v _ rfl) (by simpa using hG.2)
  | sl b off len cap k vals xs ow hk hlen hcap hel hone hH hR hok =>
    have hr := hrun _ len cap hav
    cases ow with
    | nil => exact hok.elim
    | buf g c => exact .same hh hr (.v _ rfl) (by simpa using hG)
    | any => exact .same hh hr (.v _ rfl) (by simpa using hG.2)
    | zero => exact hok.elim
theorem foldl_push : ∀ (l : List UInt8) (acc : ByteArray), (l.map fun b => (b.toNat : Int)).foldl (fun r n => r.push (UInt8.ofNat n.toNat)) acc = ⟨acc.data ++ l.toArray⟩
  | [], acc => by cases acc; simp
  | b :: l, acc => by
    rw [List.map_cons, List.foldl_cons, foldl_push l]
    have : UInt8.ofNat ((b.toNat : Int)).toNat = b := by simp
    rw [this]
    cases acc with
    | mk d => simp [ByteArray.push]
theorem s_b2sM (st dt : TypeId) (x : Operand) (ho : o.op = .convert st dt x) (e : TypeId) (hs : P.underlying st = some (.slice e)) (he8 : P.underlying e = some (.int .u8)) (hd : P.underlying dt = some .string) (hx : opOk x = true) (hf : FRel H a f) (hh : Holds H s w) (hG : G ⟨P, kp⟩ (.b2sM x) f s K) : GoalW P kp o a w H s K := by
  have hv := hf.ev x hx
  simp only [G] at hG
  split at hG
  case h_2 => exact hG.elim
  rename_i m xs hsF
  split at hG
  case h_2 => exact hG.elim
  rename_i l hl
  have hxs := bytesOf_some hl
  subst hxs
  obtain ⟨news, hsrc, hnl, hnr, _⟩ := srcF_src hv hh hsF P
  have hnews : news = (l.map fun b => (b.toNat : Int)).map (Value.int .u8) := by
    apply List.ext_getElem?
    intro j
    by_cases hj : j < news.length
    · have hjl : j < l.length := by rw [hnl] at hj; simpa using hj
      have h2 := hnr j (byteAV l[j]) (by simp [hjl])
      have h3 : news.getD j Go.undef = .int .u8 (l[j].toNat) := by unfold byteAV at h2; exact h2.ev_v
      rw [List.getD_eq_getElem?_getD, List.getElem?_eq_getElem hj, Option.getD_some] at h3
      rw [List.getElem?_eq_getElem hj, h3]
      simp [hjl]
    · rw [List.getElem?_eq_none (by omega), List.getElem?_eq_none (by rw [hnl] at hj; simp at hj; simp; omega)]
  have hform : ∃ ad len cap, a.eval x = .slice ad len cap := by
    unfold srcF at hsF
    generalize hax : a.eval x = xv at hv
    generalize hex : ev f x = y at hv hsF
    split at hsF
    · cases hv with
      | slEmpty ad cap => exact ⟨_, _, _, rfl⟩
      | sl => exact ⟨_, _, _, rfl⟩
    · cases hv; exact ⟨_, _, _, rfl⟩
    · cases hv; exact ⟨_, _, _, rfl⟩
    · cases hsF
  obtain ⟨ad, len, cap, hval⟩ := hform
  have hlen : len = m := by
    have h1 := hsrc.len
    rw [hval] at h1
    have h2 : (Builtin.lenOf (.slice ad len cap)).run P w = .ok len w := rfl
    rw [h2] at h1
    simpa using h1
  subst hlen
  have hcells := hsrc.cells
  rw [hval] at hcells
  refine .same hh (v := .string ⟨l.toArray⟩) ?_ (.v _ rfl) hG
  have hrun : (convert st dt (.slice ad len cap)).run P w = .ok (.string ⟨l.toArray⟩) w := by
    rw [run_convert_bytes_string w st dt e ad len cap hs he8 hd]
    cases ad with
    | none =>
      have h0 : news = [] := by
        have h2 : (Builtin.firstCells 1 len (.slice none len cap)).run P w = .ok #[] w := rfl
        rw [h2] at hcells
        simpa using hcells
      have hl0 : l = [] := by
        rw [h0] at hnl; exact List.eq_nil_of_length_eq_zero (by simpa using hnl.symm)
      subst hl0
      simp [Conv.bytesToString]
      try rfl
    | some ad =>
      have h2 : (Builtin.firstCells 1 len (.slice (some ad) len cap)).run P w = (loadCells ad (len * 1)).run P w := rfl
      rw [h2, Nat.mul_one, hnews] at hcells
      rw [run_bytesToString w ad len cap _ hcells, foldl_push]
      simp
      try rfl
  simp [execOp, ho, hval, hrun]
theorem s_s2b (st dt : TypeId) (x : Operand) (ho : o.op = .convert st dt x) (e : TypeId) (hs : P.underlying st = some .string) (hd : P.underlying dt = some (.slice e)) (he8 : P.underlying e = some (.int .u8)) (hx : opOk x = true) (hf : FRel H a f) (hh : Holds H s w) (hG : G ⟨P, kp⟩ (.s2b x) f s K) : GoalW P kp o a w H s K := by
  have hv := hf.ev x hx
  simp only [G] at hG
  split at hG
  case h_2 => exact hG.elim
  rename_i t he
  rw [he] at hv
  have hval := hv.ev_v
  have hr := run_bytes_of_string w st dt e t hs hd he8
  have hrun : (execOp a.eval o).run P w = .ok (.value (.slice (some ⟨w.heap.size, 0, none⟩) t.size (grownCap w t.size 0 e))) (w.drew.alloc (.cells (bytesRow t (grownCap w t.size 0 e)) e ((bytesRow t (grownCap w t.size 0 e)).size, (bytesRow t (grownCap w t.size 0 e)).size + 1))) := by
    simp [execOp, ho, hval, hr]
  have hcap := grownCap_ge w t.size 0 e
  generalize grownCap w t.size 0 e = cap at *
  have hsz : t.size ≤ (bytesRow t cap).size := by
    have : t.data.size = t.size := rfl
    simp [bytesRow]
    try omega
  have hget : ∀ j (hj : j < t.size), (bytesRow t cap)[j]? = some (.int .u8 ((t.data[j]'hj).toNat)) := fun j hj => by
    have hj' : j < t.data.size := hj
    simp only [bytesRow]
    rw [Array.getElem?_append_left (by simpa using hj'), Array.getElem?_map, Array.getElem?_eq_getElem hj']
    rfl
  generalize bytesRow t cap = vs at *
  have st := Step.write (w' := w.drew.alloc (.cells vs e (vs.size, vs.size + 1))) hh.drew w.heap.size t.size vs e s rfl rfl rfl (by simp) (heap_alloc_new w.drew _) (fun b _ hb => heap_alloc_ne w.drew _ b hb) (.inl rfl)
      hsz (fun o v hv => by rw [hh.newNone] at hv; cases hv) (fun l o hl hs => hs)
      (fun o ho => by rw [hh.newS] at ho; cases ho)
  refine .value hrun ((Step.drew hh).trans st) ?_ hG
  by_cases h0 : t.size = 0
  · have : t.data.toList = [] := by
      apply List.eq_nil_of_length_eq_zero
      rw [Array.length_toList]; exact h0
    rw [h0, this]
    exact .slEmpty _ _ _ (fun h => by cases h) trivial
  · refine .sl _ _ _ _ 1 (fun j => vs.getD j undef) _ _ (by omega) ?_ hcap (fun e he => ?_) (fun c hc => ?_) (fun j hj => ?_) (fun j u hu => ?_) trivial
    · rw [List.length_map, Array.length_toList]; rfl
    · obtain ⟨b, _, rfl⟩ := List.mem_map.1 he; rfl
    · rw [flat_bytes] at hc; obtain ⟨b, _, rfl⟩ := List.mem_map.1 hc; rfl
    · rw [Nat.mul_one] at hj
      rw [Nat.zero_add, PH.ext_at _ _ _ _ hj]
      simp [show j < vs.size by omega]
    · rw [flat_bytes, List.getElem?_map] at hu
      have hj : j < t.size := by
        rw [Option.map_eq_some_iff] at hu
        obtain ⟨b, hb, _⟩ := hu
        have := (List.getElem?_eq_some_iff.1 hb).1
        rwa [Array.length_toList] at this
      have hjd : j < t.data.size := hj
      rw [Array.getElem?_toList, Array.getElem?_eq_getElem hjd, Option.map_some, Option.some.injEq] at hu
      subst hu
      rw [Array.getD_eq_getD_getElem?, hget j hj]
      exact .v _ rfl
end
end Go.Av
namespace Go.Av
open Go
section
variable {P : Program} {kp : AV → Hp → Prop} {o : Oper} {a : Act} {w : World} {H : PH} {s : Hp} {K : AV → Hp → Prop} {f : Fr}
theorem FRel.map (hf : FRel H a f) {xs : Array Operand} (hok : ∀ x ∈ xs.toList, opOk x = true) : RVA H (xs.map a.eval) (xs.toList.map (Go.Av.ev f)) := by
  refine RVA.iff_list.2 ⟨by simp, fun j x u hx hu => ?_⟩
  rw [Array.toList_map, List.getElem?_map] at hx
  rw [List.getElem?_map] at hu
  cases hj : xs.toList[j]? with
  | none => simp [hj] at hx
  | some op =>
    rw [hj] at hx hu
    obtain rfl : a.eval op = x := by simpa using hx
    obtain rfl : Go.Av.ev f op = u := by simpa using hu
    exact hf.ev op (hok op (List.mem_of_getElem? hj))
theorem RVA.append {vs ws : Array Value} {us xs : List AV} (h : RVA H vs us) (h2 : RVA H ws xs) : RVA H (vs ++ ws) (us ++ xs) := by
  rw [RVA.iff_list] at h h2 ⊢
  refine ⟨by rw [Array.toList_append, List.length_append, List.length_append, h.1, h2.1], fun j x u hx hu => ?_⟩
  rw [Array.toList_append, List.getElem?_append] at hx
  rw [List.getElem?_append, ← h.1] at hu
  split at hx
  · rename_i hj; rw [if_pos hj] at hu; exact h.2 j x u hx hu
  · rename_i hj; rw [if_neg hj] at hu; exact h2.2 _ x u hx hu
theorem s_clo (fn : FuncId) (first cap : Array Operand) (ho : o.op = .makeFunc (.func fn) first cap) (h1 : ∀ x ∈ first.toList, opOk x = true) (h2 : ∀ x ∈ cap.toList, opOk x = true) (hf : FRel H a f) (hh : Holds H s w)
    (hG : G ⟨P, kp⟩ (.clo fn first.toList cap.toList) f s K) : GoalW P kp o a w H s K := by
  have a1 := hf.map h1
  have a2 := hf.map h2
  refine .same hh (v := .func (.func fn) (first.map a.eval) (cap.map a.eval)) ?_ (.clo fn _ _ _ _ a1.1 a1.2 a2.1 a2.2) hG
  simp only [execOp, ho, Instr.makeFunc, Sem.run_bind, Sem.run_pure, Result.andThen_ok]
theorem s_callV (x : Operand) (args : Array Operand) (ats : Array TypeId) (ho : o.op = .call { callee := .value x, args, argTypes := ats }) (hx : opOk x = true)
    (hok : ∀ x ∈ args.toList, opOk x = true) (hf : FRel H a f) (hh : Holds H s w) (hG : G ⟨P, kp⟩ (.callV x args.toList) f s K) : GoalW P kp o a w H s K := by
  intro Q hQ
  have hv := hf.ev x hx
  simp only [G] at hG
  split at hG
  case h_2 => exact hG.elim
  rename_i g ds cs he
  obtain ⟨hok2, hG⟩ := hG
  obtain ⟨fn, hfn, hb, hnm⟩ : ∃ fn, P.funcs[g]? = some fn ∧ fn.body.isSome ∧ fn.name ≠ "runtime.NumGoroutine" := by
    unfold callOk at hok2
    split at hok2
    · rename_i fn hfn
      simp only [Bool.and_eq_true, bne_iff_ne, ne_eq] at hok2
      exact ⟨fn, hfn, hok2.1, hok2.2⟩
    · cases hok2
  rw [he] at hv
  generalize hav : a.eval x = xv at hv
  cases hv with
  | clo g ws vs ds cs hw hW hl hR =>
    have hargs : RVA H (ws ++ args.map a.eval ++ vs) (ds ++ args.toList.map (ev f) ++ cs) := RVA.append (RVA.append ⟨hw, hW⟩ (hf.map hok)) ⟨hl, hR⟩
    have hc := hG _ w H hargs hh
    have hrun : (execOp a.eval o).run P w = .ok (.enter g (ws ++ args.map a.eval ++ vs)) w := by
      cases hbb : fn.body with
      | none => simp [hbb] at hb
      | some c => simp [execOp, ho, resolve, hav, Deferred.ofValue, invoke, callFunc, hfn, hnm, hbb]
    unfold Oper.wp
    rw [hrun]
    exact hc.mono fun e w' hh => by
      rcases hh with ⟨v, r, H', s', he, hst, hv, hR⟩ | ⟨v, r, H', s', he, hst, hv, hR⟩
      · subst he
        exact ⟨v, H', s', r, rfl, hst, hv, hR⟩
      · subst he
        exact hQ _ _ _ _ _ hst hv hR
theorem s_mki (t : TypeId) (x : Operand) (ho : o.op = .makeInterface t x) (d : TypeDesc) (hu : P.underlying t = some d) (hd : ∀ m, d ≠ .interface m) (hx : opOk x = true) (hf : FRel H a f) (hh : Holds H s w) (hG : G ⟨P, kp⟩ (.mki t x) f s K) : GoalW P kp o a w H s K := by
  refine .same hh (v := .iface t (a.eval x)) ?_ (.iface t _ _ (hf.ev x hx)) hG
  cases d <;> first
    | exact absurd rfl (hd _)
    | simp [execOp, ho, Instr.makeInterface, run_underlying hu]
theorem s_asrt (x : Operand) (t0 t : TypeId) (ok : Bool) (ho : o.op = .typeAssert x t0 t ok) (d : TypeDesc) (hu : P.underlying t = some d) (hd : ∀ m, d ≠ .interface m) (i : TypeInfo) (hi : P.info? t = some i) (z : Value) (hz : i.zero = some z) (hzo : constOk z = true) (hx : opOk x = true) (hf : FRel H a f) (hh : Holds H s w)
    (hG : G ⟨P, kp⟩ (.asrt t ok (ofConst z) x) f s K) : GoalW P kp o a w H s K := by
  have hv := hf.ev x hx
  simp only [G] at hG
  have tup2 : ∀ (v : Value) (r : AV) (b : Bool), RV H v r → RV H (.tuple #[v, .bool b]) (.tup [r, .v (.bool b)]) := fun v r b h => .tup _ _ rfl (fun j u hu => by
    match j, hu with
    | 0, hu => simp at hu; subst hu; exact h
    | 1, hu => simp at hu; subst hu; exact .v _ rfl
    | j + 2, hu => simp at hu)
  split at hG
  · rename_i d' y he
    rw [he] at hv
    generalize hav : a.eval x = xv at hv
    cases hv with
    | iface d' xv y h =>
      by_cases hdt : d' = t
      · rw [if_pos hdt] at hG
        subst hdt
        cases ok with
        | true =>
          refine .same hh (v := .tuple #[xv, .bool true]) ?_ (tup2 _ _ _ h) (by simpa using hG)
          cases d <;> first
            | exact absurd rfl (hd _)
            | simp [execOp, ho, hav, Instr.typeAssert, run_underlying hu]
        | false =>
          refine .same hh (v := xv) ?_ h (by simpa using hG)
          cases d <;> first
            | exact absurd rfl (hd _)
            | simp [execOp, ho, hav, Instr.typeAssert, run_underlying hu]
      · rw [if_neg hdt] at hG
        obtain ⟨rfl, hG⟩ := hG
        refine .same hh (v := .tuple #[z, .bool false]) ?_ (tup2 _ _ _ (RV.ofConst H z hzo)) hG
        cases d <;> first
          | exact absurd rfl (hd _)
          | simp [execOp, ho, hav, Instr.typeAssert, run_underlying hu, hdt, zeroValue, typeInfo, hi, hz]
  · rename_i he
    rw [he] at hv
    have hav := hv.ev_v
    obtain ⟨rfl, hG⟩ := hG
    refine .same hh (v := .tuple #[z, .bool false]) ?_ (tup2 _ _ _ (RV.ofConst H z hzo)) hG
    cases d <;> first
      | exact absurd rfl (hd _)
      | simp [execOp, ho, hav, Instr.typeAssert, run_underlying hu, zeroValue, typeInfo, hi, hz]
  · exact hG.elim
theorem equalIn_step {t : TypeId} {x y : Value} {b : Bool} (h : ∀ n, (Op.equalIn (n + 1) t x y).run P w = .ok b w) : (Op.equalIn 10000 t x y).run P w = .ok b w := h 9999
theorem s_eqi (neg : Bool) (t : TypeId) (x : Operand) (yt : TypeId) (ho : o.op = .binOp (if neg then .neq else .eql) t x (.const .nilIface) yt) (ms : Array (String × TypeId)) (hu : P.underlying t = some (.interface ms)) (hx : opOk x = true) (hf : FRel H a f) (hh : Holds H s w) (hG : G ⟨P, kp⟩ (.eqi neg x) f s K) : GoalW P kp o a w H s K := by
  have hv := hf.ev x hx
  simp only [G] at hG
  have e1 : ∀ (d : TypeId) (v : Value), (Op.equalIn 10000 t (.iface d v) .nilIface).run P w = .ok false w := fun d v => equalIn_step (fun n => by simp [Op.equalIn, run_underlying hu])
  have e2 : (Op.equalIn 10000 t .nilIface .nilIface).run P w = .ok true w := equalIn_step (fun n => by simp [Op.equalIn, run_underlying hu])
  have hc : a.eval (.const .nilIface) = .nilIface := rfl
  split at hG
  · rename_i d y he
    rw [he] at hv
    generalize hav : a.eval x = xv at hv
    cases hv with
    | iface d xv y h =>
      cases neg
      · exact .same hh (v := .bool false) (by simp [execOp, ho, hav, hc, eqGuard, binOp, Op.equal, Op.maxDepth, e1]) (.v _ rfl) hG
      · exact .same hh (v := .bool true) (by simp [execOp, ho, hav, hc, eqGuard, binOp, Op.equal, Op.maxDepth, e1]) (.v _ rfl) hG
  · rename_i he
    rw [he] at hv
    have hav := hv.ev_v
    cases neg
    · exact .same hh (v := .bool true) (by simp [execOp, ho, hav, hc, eqGuard, binOp, Op.equal, Op.maxDepth, e2]) (.v _ rfl) (by simpa using hG)
    · exact .same hh (v := .bool false) (by simp [execOp, ho, hav, hc, eqGuard, binOp, Op.equal, Op.maxDepth, e2]) (.v _ rfl) (by simpa using hG)
  · exact hG.elim
theorem s_eqfn (neg : Bool) (t : TypeId) (x : Operand) (yt : TypeId) (ho : o.op = .binOp (if neg then .neq else .eql) t x (.const .nilFunc) yt) (a1 a2 : Array TypeId) (a3 : Bool) (hu : P.underlying t = some (.func a1 a2 a3)) (hx : opOk x = true) (hf : FRel H a f) (hh : Holds H s w) (hG : G ⟨P, kp⟩ (.eqfn neg x) f s K) : GoalW P kp o a w H s K := by
  have hv := hf.ev x hx
  simp only [G] at hG
  have e1 : ∀ (g : Fn) (v1 v2 : Array Value), (Op.equalIn 10000 t (.func g v1 v2) .nilFunc).run P w = .ok false w := fun g v1 v2 => equalIn_step (fun n => by simp [Op.equalIn, run_underlying hu])
  have e2 : (Op.equalIn 10000 t .nilFunc .nilFunc).run P w = .ok true w := equalIn_step (fun n => by simp [Op.equalIn, run_underlying hu])
  have hc : a.eval (.const .nilFunc) = .nilFunc := rfl
  split at hG
  · rename_i g ds cs he
    rw [he] at hv
    generalize hav : a.eval x = xv at hv
    cases hv with
    | clo g ws vs ds cs hw hW hl hR =>
      cases neg
      · exact .same hh (v := .bool false) (by simp [execOp, ho, hav, hc, eqGuard, binOp, Op.equal, Op.maxDepth, e1]) (.v _ rfl) hG
      · exact .same hh (v := .bool true) (by simp [execOp, ho, hav, hc, eqGuard, binOp, Op.equal, Op.maxDepth, e1]) (.v _ rfl) hG
  · rename_i he
    rw [he] at hv
    have hav := hv.ev_v
    cases neg
    · exact .same hh (v := .bool true) (by simp [execOp, ho, hav, hc, eqGuard, binOp, Op.equal, Op.maxDepth, e2]) (.v _ rfl) (by simpa using hG)
    · exact .same hh (v := .bool false) (by simp [execOp, ho, hav, hc, eqGuard, binOp, Op.equal, Op.maxDepth, e2]) (.v _ rfl) (by simpa using hG)
  · exact hG.elim
theorem isCells_ob {l : Nat} (hh : Holds H s w) (h : isCells s l = true) : ∃ vs T, w.heap[l]? = some (.cells vs T (0, 0)) := by
  unfold isCells at h
  split at h
  · rename_i cs hs; obtain ⟨_, vs, T, hb, _⟩ := hh.ob l _ hs; exact ⟨vs, T, hb⟩
  · rename_i T cs hs; obtain ⟨_, vs, hb, _⟩ := hh.ob l _ hs; exact ⟨vs, T, hb⟩
  · cases h
theorem s_eqpp (neg : Bool) (t : TypeId) (x y : Operand) (yt : TypeId) (ho : o.op = .binOp (if neg then .neq else .eql) t x y yt) (e : TypeId) (hu : P.underlying t = some (.pointer e)) (i : TypeInfo) (hi : P.info? e = some i) (hn0 : i.size ≠ 0) (hx : opOk x = true) (hy : opOk y = true) (hf : FRel H a f) (hh : Holds H s w)
    (hG : G ⟨P, kp⟩ (.eqpp neg x y) f s K) : GoalW P kp o a w H s K := by
  have hv := hf.ev x hx
  have hvy := hf.ev y hy
  simp only [G] at hG
  have fin : ∀ (p q : Option Addr) (b : Bool), a.eval x = .pointer p → a.eval y = .pointer q → (Op.equalIn 10000 t (.pointer p) (.pointer q)).run P w = .ok b w → K (.v (.bool (xor neg b))) s → GoalW P kp o a w H s K := by
    intro p q b h1 h2 hb hK
    cases neg
    · exact .same hh (v := .bool b) (by simp [execOp, ho, h1, h2, eqGuard, binOp, Op.equal, Op.maxDepth, hb]) (.v _ rfl) (by simpa using hK)
    · exact .same hh (v := .bool (!b)) (by simp [execOp, ho, h1, h2, eqGuard, binOp, Op.equal, Op.maxDepth, hb]) (.v _ rfl) (by simpa using hK)
  split at hG
  · rename_i l off he hey
    rw [he] at hv; rw [hey] at hvy
    exact fin _ _ false hv.lt_of_ptr hvy.ev_v (equalIn_step (fun n => by simp [Op.equalIn, run_underlying hu])) (by simpa using hG)
  · rename_i l off he hey
    rw [he] at hv; rw [hey] at hvy
    exact fin _ _ false hv.ev_v hvy.lt_of_ptr (equalIn_step (fun n => by simp [Op.equalIn, run_underlying hu])) (by simpa using hG)
  · rename_i he hey
    rw [he] at hv; rw [hey] at hvy
    exact fin _ _ true hv.ev_v hvy.ev_v (equalIn_step (fun n => by simp [Op.equalIn, run_underlying hu])) (by simpa using hG)
  · rename_i l o' l' o'' he hey
    rw [he] at hv; rw [hey] at hvy
    obtain ⟨⟨c1, c2⟩, hK⟩ := hG
    obtain ⟨vs, T, hb⟩ := isCells_ob hh c1
    obtain ⟨vs', T', hb'⟩ := isCells_ob hh c2
    refine fin _ _ _ hv.lt_of_ptr hvy.lt_of_ptr ?_ hK
    have hs0 : (sizeOf e).run P w = .ok i.size w := by simp [sizeOf, typeInfo, hi]
    by_cases hc : l = l' ∧ o' = o''
    · obtain ⟨rfl, rfl⟩ := hc
      exact equalIn_step (fun n => by simp [Op.equalIn, run_underlying hu, hs0, hn0, run_sameAddr_same])
    · have hne : (⟨l, o', none⟩ : Addr) ≠ ⟨l', o'', none⟩ := fun h => hc (by simpa using h)
      have := run_sameAddr_other (P := P) (w := w) hne hb hb'
      exact equalIn_step (fun n => by simp [Op.equalIn, run_underlying hu, hs0, hn0, this, hc])
  · exact hG.elim
theorem s_pan (x : Operand) (ho : o.op = .panic x) (hx : opOk x = true) (hf : FRel H a f) (hh : Holds H s w) (hG : G ⟨P, kp⟩ (.pan x) f s K) : GoalW P kp o a w H s K := by
  intro Q hQ
  have hv := hf.ev x hx
  simp only [G] at hG
  split at hG
  case h_2 => exact hG.elim
  rename_i t y he
  rw [he] at hv
  have hv0 := hv
  generalize hav : a.eval x = xv at hv hv0
  cases hv with
  | iface t xv y h =>
    have hrun : (execOp a.eval o).run P w = .halt (.panic (.iface t xv)) w := by
      simp [execOp, ho, hav, run_panic_iface]
    unfold Oper.wp
    rw [hrun]
    exact hQ _ _ _ _ _ (.refl hh) hv0 hG
theorem s_rngS (t : TypeId) (x : Operand) (ho : o.op = .range t x) (hu : P.underlying t = some .string) (hx : opOk x = true) (hf : FRel H a f) (hh : Holds H s w) (hG : G ⟨P, kp⟩ (.rngS x) f s K) : GoalW P kp o a w H s K := by
  have hv := hf.ev x hx
  simp only [G] at hG
  split at hG
  case h_2 => exact hG.elim
  rename_i str he
  rw [he] at hv
  have hav := hv.ev_v
  refine .value (v := .pointer (some ⟨w.heap.size, 0, none⟩)) (w' := w.alloc (.stringIter str 0)) ?_ (Step.newOther hh _ (.it str 0) (heap_alloc_new w _)) (.ptr _ _) (hG _ hh.newS)
  simp [execOp, ho, hav, Instr.range, run_underlying hu]
theorem s_nxtS (x : Operand) (ho : o.op = .next x true) (hx : opOk x = true) (hf : FRel H a f) (hh : Holds H s w) (hG : G ⟨P, kp⟩ (.nxtS x) f s K) : GoalW P kp o a w H s K := by
  have hv := hf.ev x hx
  simp only [G] at hG
  split at hG
  case h_2 => exact hG.elim
  rename_i l off he
  rw [he] at hv
  obtain ⟨rfl, hG⟩ := hG
  have hav := hv.lt_of_ptr
  split at hG
  case h_2 => exact hG.elim
  rename_i t pos hs
  have hb : w.heap[l]? = some (.stringIter t pos) := hh.ob l _ hs
  have hlt : l < w.heap.size := (Array.getElem?_eq_some_iff.1 hb).1
  by_cases hp : pos < t.size
  · rw [if_pos hp] at hG
    have hst := Step.setOther hh (o' := .stringIter t (pos + (Utf8.decode t pos).2)) (ob := .it t (pos + (Utf8.decode t pos).2)) (by simp [hs]) hb (fun c e f h => by cases h) (by
      show (w.heap.setIfInBounds l _)[l]? = _
      exact Array.getElem?_setIfInBounds_self_of_lt hlt)
    refine .value (v := .tuple #[.bool true, .int .i64 pos, .int .i32 (Utf8.decode t pos).1]) ?_ hst (.tup _ _ rfl (fun j u hu => ?_)) hG
    · have e1 : (getObj l).run P w = .ok (.stringIter t pos) w := by simp [getObj, Sem.run, hb]
      have e2 : (setObj l (.stringIter t (pos + (Utf8.decode t pos).2))).run P w = .ok () { w with heap := w.heap.setIfInBounds l (.stringIter t (pos + (Utf8.decode t pos).2)) } := by simp [setObj, Sem.run, hb]
      simp [execOp, ho, hav, Instr.next, e1, hp, e2, goInt]
    · match j, hu with
      | 0, hu => simp at hu; subst hu; exact .v _ rfl
      | 1, hu => simp at hu; subst hu; exact .v _ rfl
      | 2, hu => simp at hu; subst hu; exact .v _ rfl
      | j + 3, hu => simp at hu
  · rw [if_neg hp] at hG
    refine .same hh (v := .tuple #[.bool false]) ?_ (.tup _ _ rfl (fun j u hu => ?_)) hG
    · have e1 : (getObj l).run P w = .ok (.stringIter t pos) w := by simp [getObj, Sem.run, hb]
      simp [execOp, ho, hav, Instr.next, e1, hp]
    · match j, hu with
      | 0, hu => simp at hu; subst hu; exact .v _ rfl
      | j + 1, hu => simp at hu
theorem s_allocT (T : TypeId) (ho : o.op = .alloc T) (i : TypeInfo) (hi : P.info? T = some i) (z : Value) (hz : i.zero = some z) (hone : ∀ x ∈ z.cells.toList, x.oneCell' = true) (hh : Holds H s w)
    (hG : G ⟨P, kp⟩ (.allocT T (z.cells.toList.map ofCell)) f s K) : GoalW P kp o a w H s K := by
  refine .value (v := .pointer (some ⟨w.heap.size, 0, none⟩)) (w' := w.alloc (.cells z.cells T)) ?_ (Step.newT hh z.cells T (z.cells.toList.map ofCell) (fun c hc => by obtain ⟨x, _, rfl⟩ := List.mem_map.1 hc; exact ofCell_one x) (RVA.ofCells H _ hone))
    (.ptr _ _) (hG _ hh.newS)
  simp [execOp, ho, Instr.alloc, zeroValue, typeInfo, hi, hz, newVar, newRow]
theorem s_toU (st dt : TypeId) (x : Operand) (ho : o.op = .convert st dt x) (e : TypeId) (hs : P.underlying st = some (.pointer e)) (hd : P.underlying dt = some .unsafePointer) (j : TypeInfo) (hj : P.info? e = some j) (hj0 : j.size ≠ 0) (hx : opOk x = true) (hf : FRel H a f) (hh : Holds H s w) (hG : G ⟨P, kp⟩ (.toU x) f s K) : GoalW P kp o a w H s K := by
  have hv := hf.ev x hx
  simp only [G] at hG
  split at hG
  case h_2 => exact hG.elim
  rename_i l off he
  rw [he] at hv
  have hav := hv.lt_of_ptr
  split at hG
  case h_2 => exact hG.elim
  rename_i cs hcs
  obtain ⟨hlt, hG⟩ := hG
  obtain ⟨_, vs, T, fz, hb, hr⟩ := hh.read hcs
  have := Lib.run_to_unsafe (P := P) w (src := st) (dst := dt) (e := T) (cells := vs.size) ⟨l, off, none⟩ hs hd hj hj0 (by simp [World.shape?, hb]) (by rw [hr.1]; exact hlt)
  exact .same hh (v := .pointer (some ⟨l, off, none⟩)) (by simp [execOp, ho, hav, this]) (.ptr _ _) hG
theorem s_frU (st dt : TypeId) (x : Operand) (ho : o.op = .convert st dt x) (u : TypeId) (hs : P.underlying st = some .unsafePointer) (hd : P.underlying dt = some (.pointer u)) (j : TypeInfo) (hj : P.info? u = some j) (n : Nat) (hl : liesAt P P.depth u (n / P.cellsOf u) 0 u 1 = true) (hx : opOk x = true) (hf : FRel H a f) (hh : Holds H s w) (hG : G ⟨P, kp⟩ (.frU u n x) f s K) : GoalW P kp o a w H s K := by
  have hv := hf.ev x hx
  simp only [G] at hG
  split at hG
  case h_2 => exact hG.elim
  rename_i l off he
  rw [he] at hv
  obtain ⟨rfl, hG⟩ := hG
  have hav := hv.lt_of_ptr
  split at hG
  case h_2 => exact hG.elim
  rename_i T cs hcs
  obtain ⟨rfl, rfl, hG⟩ := hG
  obtain ⟨_, vs, hb, hr, _⟩ := hh.ob l _ hcs
  have := Lib.run_from_unsafe (P := P) w (src := st) (dst := dt) (e := T) (cells := cs.length) ⟨l, 0, none⟩ hs hd hj (by simp [World.shape?, hb, hr.1]) hl
  exact .same hh (v := .pointer (some ⟨l, 0, none⟩)) (by simp [execOp, ho, hav, this]) (.ptr _ _) hG
theorem s_sdat (t : TypeId) (x : Operand) (ho : o.op = .call { callee := .builtin .unsafeSliceData, args := #[x], argTypes := #[t] }) (hx : opOk x = true) (hf : FRel H a f) (hh : Holds H s w) (hG : G ⟨P, kp⟩ (.sdat x) f s K) : GoalW P kp o a w H s K := by
  have hv := hf.ev x hx
  simp only [G] at hG
  split at hG
  · rename_i xs ow he
    rw [he] at hv
    obtain ⟨rfl, rfl, hG⟩ := hG
    generalize hav : a.eval x = xv at hv
    cases hv with
    | slEmpty ad cap ow ha hok =>
      simp only [Own.okEmpty] at hok
      subst hok
      exact .same hh (v := .pointer none) (by simp [execOp, ho, resolve, hav, invoke, builtin, Lib.run_unsafeSliceData_nil]) (.v _ rfl) hG
    | sl b off len cap k vals xs ow hk hlen hcap hel hone hH hR hok => exact hok.elim
  · rename_i l n cap k he
    rw [he] at hv
    obtain ⟨h0, hG⟩ := hG
    generalize hav : a.eval x = xv at hv
    cases hv with
    | mb l n cap k hk hcap =>
      exact .same hh (v := .pointer (some ⟨l, 0, none⟩)) (by simp [execOp, ho, resolve, hav, invoke, builtin, Lib.run_unsafeSliceData_row _ _ _ _ _ _ (Nat.pos_iff_ne_zero.1 h0)]) (.ptr _ _) hG
  · exact hG.elim
theorem s_ustr (pt it : TypeId) (x y : Operand) (ho : o.op = .call { callee := .builtin .unsafeString, args := #[x, y], argTypes := #[pt, it] }) (e : TypeId) (hp : P.underlying pt = some (.pointer e)) (hc : P.cellsOf e = 1) (hx : opOk x = true) (hy : opOk y = true) (hf : FRel H a f) (hh : Holds H s w) (hG : G ⟨P, kp⟩ (.ustr e x y) f s K) : GoalW P kp o a w H s K := by
  have hv := hf.ev x hx
  have hvy := hf.ev y hy
  simp only [G] at hG
  split at hG
  · rename_i k n he hey
    rw [he] at hv; rw [hey] at hvy
    have hav := hv.ev_v; have havy := hvy.ev_v
    obtain ⟨rfl, rfl, hG⟩ := hG
    have hr := Lib.run_unsafeString_none (P := P) w pt it o.type none
    have e0 : (ByteArray.empty) = ⟨#[]⟩ := rfl
    exact .same hh (v := .string ⟨#[]⟩) (by simp [execOp, ho, resolve, hav, havy, invoke, builtin, hr, e0]) (.v _ rfl) hG
  · rename_i l off k n he hey
    rw [he] at hv; rw [hey] at hvy
    have hav := hv.lt_of_ptr; have havy := hvy.ev_v
    obtain ⟨rfl, rfl, h0, hG⟩ := hG
    split at hG
    case h_2 => exact hG.elim
    rename_i T cs hcs
    obtain ⟨rfl, hle, h63, hG⟩ := hG
    split at hG
    case h_2 => exact hG.elim
    rename_i bs hbs
    obtain ⟨_, vs, hb, hr, hn⟩ := hh.ob l _ hcs
    have hcells := bytesOf_some hbs
    have hbl : bs.length = n.toNat := by
      have := congrArg List.length hcells
      simp at this; omega
    have hr2 := Lib.run_unsafeString_row (P := P) w pt it o.type T hp hc l vs.size (by simp [World.shape?, hb]) bs (by intro h; subst h; simp at hbl; omega) (by rw [hr.1]; omega) (by omega) (fun j b hj => by
      have hjn : j < n.toNat := by rw [← hbl]; exact (List.getElem?_eq_some_iff.1 hj).1
      have h1 : (cs.take n.toNat)[j]? = some (byteAV b) := by rw [hcells, List.getElem?_map, hj]; rfl
      rw [List.getElem?_take_of_lt hjn] at h1
      have h2 := hr.2 j _ h1
      have h3 := RV.ev_v h2
      rw [Addr_add, Nat.zero_add, cell_of_row w l j vs T _ hb]
      have hjv : j < vs.size := by rw [hr.1]; exact (List.getElem?_eq_some_iff.1 h1).1
      rw [Array.getElem?_eq_getElem hjv]
      simpa [hjv] using h3)
    have hni : (n : Int) = (bs.length : Int) := by omega
    have hrun : (execOp a.eval o).run P w = .ok (.value (.string ⟨bs.toArray⟩)) (w.freeze ⟨l, 0, none⟩ bs.length) := by
      rw [hni] at havy
      simp [execOp, ho, resolve, hav, havy, invoke, builtin, hr2]
    -- the buffer is given up; all other blocks stand
    refine .value (H' := H) hrun ?_ (.v _ rfl) hG
    have hblk : ∀ b, b ≠ l → (w.freeze ⟨l, 0, none⟩ bs.length).heap[b]? = w.heap[b]? := fun b hbn => by
      unfold World.freeze
      split
      · rfl
      · simp [Array.getElem?_modify, Ne.symm hbn]
    have hsz : (w.freeze ⟨l, 0, none⟩ bs.length).heap.size = w.heap.size := by
      unfold World.freeze
      split <;> simp
    have hoo : (w.freeze ⟨l, 0, none⟩ bs.length).os = w.os ∧ (w.freeze ⟨l, 0, none⟩ bs.length).tape = w.tape ∧ (w.freeze ⟨l, 0, none⟩ bs.length).output = w.output := by
      unfold World.freeze
      split <;> exact ⟨rfl, rfl, rfl⟩
    refine ⟨⟨fun b i v hbv => ?_, fun l' ob hl' => ?_⟩, .refl H, hoo.1, hoo.2.1, hoo.2.2, Nat.le_of_eq hsz.symm, fun b _ hs => ?_, fun b hb' => .inl ?_, fun b i hb' => .inl hb', fun b cs' _ hs => ?_⟩
    · have hbn : b ≠ l := by rintro rfl; rw [hn] at hbv; cases hbv
      rw [← hh.ro b i v hbv]
      exact World.cell?_of_block (hblk b hbn)
    · have hne : l' ≠ l := by rintro rfl; rw [Hp.del_same] at hl'; cases hl'
      rw [Hp.del_ne _ hne] at hl'
      exact (hh.ob l' ob hl').kept (.refl H) (hblk l' hne) (fun i hi => hi)
    · exact hblk b (by rintro rfl; rw [hcs] at hs; cases hs)
    · intro hs0
      by_cases hbl2 : b = l
      · subst hbl2; rw [Hp.del_same] at hb'; exact hb' rfl
      · rw [Hp.del_ne _ hbl2] at hb'; exact hb' hs0
    · have hbn : b ≠ l := by rintro rfl; rw [hcs] at hs; cases hs
      exact ⟨hblk b hbn, .inr ⟨cs', by rw [Hp.del_ne _ hbn]; exact hs⟩⟩
  · exact hG.elim
theorem s_s2bM (st dt : TypeId) (x : Operand) (ho : o.op = .convert st dt x) (e : TypeId) (hs : P.underlying st = some .string) (hd : P.underlying dt = some (.slice e)) (he8 : P.underlying e = some (.int .u8)) (hx : opOk x = true) (hf : FRel H a f) (hh : Holds H s w) (hG : G ⟨P, kp⟩ (.s2bM x) f s K) : GoalW P kp o a w H s K := by
  have hv := hf.ev x hx
  simp only [G] at hG
  split at hG
  case h_2 => exact hG.elim
  rename_i t he
  rw [he] at hv
  have hval := hv.ev_v
  obtain ⟨hsz47, hG⟩ := hG
  have hr := run_bytes_of_string w st dt e t hs hd he8
  have hrun : (execOp a.eval o).run P w = .ok (.value (.slice (some ⟨w.heap.size, 0, none⟩) t.size (grownCap w t.size 0 e))) (w.drew.alloc (.cells (bytesRow t (grownCap w t.size 0 e)) e ((bytesRow t (grownCap w t.size 0 e)).size, (bytesRow t (grownCap w t.size 0 e)).size + 1))) := by
    simp [execOp, ho, hval, hr]
  have hcap := grownCap_ge w t.size 0 e
  have hcm := grownCap_le_maxLen w t.size 0 e (by unfold maxLen; omega)
  generalize grownCap w t.size 0 e = cap at *
  have hone : ∀ x ∈ (bytesRow t cap).toList, x.oneCell' = true := fun x hx => by
    simp only [bytesRow, Array.toList_append, Array.toList_map, Array.toList_replicate, List.mem_append, List.mem_map, List.mem_replicate] at hx
    rcases hx with ⟨b, _, rfl⟩ | ⟨_, rfl⟩ <;> rfl
  have hrv : RVA H (bytesRow t cap) (t.data.toList.map byteAV ++ List.replicate (cap - t.size) (.v (.int .u8 0))) := by
    refine RVA.iff_list.2 ⟨by simp [bytesRow], fun j x u hx hu => ?_⟩
    simp only [bytesRow, Array.toList_append, Array.toList_map, Array.toList_replicate] at hx
    rw [List.getElem?_append] at hx hu
    simp only [List.length_map] at hx hu
    split at hx
    · rename_i hj; rw [if_pos hj] at hu
      rw [List.getElem?_map] at hx hu
      cases hq : t.data.toList[j]? with
      | none => simp [hq] at hx
      | some b =>
        rw [hq] at hx hu
        obtain rfl : Value.int .u8 (b.toNat : Int) = x := by simpa using hx
        obtain rfl : byteAV b = u := by simpa using hu
        exact .v _ rfl
    · rename_i hj; rw [if_neg hj] at hu
      rw [List.getElem?_replicate] at hx hu
      split at hx
      · rename_i h2; rw [if_pos h2] at hu
        obtain rfl := Option.some.inj hx; obtain rfl := Option.some.inj hu
        exact .v _ rfl
      · cases hx
  have st := Step.write (w' := w.drew.alloc (.cells (bytesRow t cap) e ((bytesRow t cap).size, (bytesRow t cap).size + 1))) hh.drew w.heap.size 0 (bytesRow t cap) e (s.set w.heap.size (.sc (t.data.toList.map byteAV ++ List.replicate (cap - t.size) (.v (.int .u8 0))))) rfl rfl rfl (by simp) (heap_alloc_new w.drew _) (fun b _ hb => heap_alloc_ne w.drew _ b hb) (.inl rfl)
      (Nat.zero_le _) (fun o v hv => by rw [hh.newNone] at hv; cases hv) (fun l o hl hs => by rw [Hp.set_ne _ _ hl] at hs; exact hs)
      (fun o ho => by
        rw [Hp.set_same] at ho; obtain rfl := Option.some.inj ho
        rw [PH.ext_zero]
        refine ⟨fun c hc => ?_, bytesRow t cap, e, heap_alloc_new w.drew _, hrv, hh.newNone⟩
        rcases List.mem_append.1 hc with hc | hc
        · obtain ⟨b, _, rfl⟩ := List.mem_map.1 hc; rfl
        · obtain ⟨_, rfl⟩ := List.mem_replicate.1 hc; rfl)
  rw [PH.ext_zero] at st
  exact .value hrun ((Step.drew hh).trans st) (.mb _ _ _ _ (by omega) hcap) (hG _ cap _ hh.newS hcap hcm (by simp))
end
end Go.Av
namespace Go.Av
open Go
section
variable {P : Program}
def CkT (P : Program) (d : Nat) (t : TypeId) (ks : List CK) : Prop :=
  ∀ (em : Bool) (D : Nat) (w : World) (xs : Array Value) (off : Nat), fitL ks ((xs.toList.drop off).take ks.length) →
    ∃ a, (part t xs off).run P w = .ok a w ∧ (Instr.checkKey em (D + d) t a).run P w = .ok () w
theorem CkT_one {d : Nat} {t : TypeId} {k : CK} {desc : TypeDesc} (h : P.underlying t = some desc) (hr : desc.isRow = false) (hc : ∀ em n x w, k.fit x → (Instr.checkKey em (n + 1) t x).run P w = .ok () w) : CkT P (d + 1) t [k] := by
  intro em D w xs off hx
  obtain ⟨x, hx1, hx2, hx3⟩ := one_cell hx
  exact ⟨x, part_one h hr _ _ _ hx1 w, hc em (D + d) x w hx2⟩
theorem CkT_int {d : Nat} {t : TypeId} {k : IntKind} (h : P.underlying t = some (.int k)) : CkT P (d + 1) t [.int k] :=
  CkT_one h rfl fun em n x w hx => by
    cases x <;> first | exact hx.elim | skip
    simp [Instr.checkKey, run_underlying h]
theorem CkT_bool {d : Nat} {t : TypeId} (h : P.underlying t = some .bool) : CkT P (d + 1) t [.bool] :=
  CkT_one h rfl fun em n x w hx => by
    cases x <;> first | exact hx.elim | skip
    simp [Instr.checkKey, run_underlying h]
theorem CkT_str {d : Nat} {t : TypeId} (h : P.underlying t = some .string) : CkT P (d + 1) t [.str] :=
  CkT_one h rfl fun em n x w hx => by
    cases x <;> first | exact hx.elim | skip
    simp [Instr.checkKey, run_underlying h]
theorem ckT_sound : ∀ (d : Nat) (t : TypeId) (ks : List CK), flatK P d t = some ks → P.cellsOf t = ks.length → (P.info? t).isSome → CkT P d t ks
  | 0, t, ks, h, _, _ => by simp [flatK] at h
  | d + 1, t, ks, h, hsz, hin => by
    simp only [flatK] at h
    cases hu : P.underlying t with
    | none => simp [hu] at h
    | some desc =>
      simp only [hu] at h
      cases desc <;> simp only [] at h <;> first
        | (cases h; done)
        | skip
      case int k => obtain rfl := Option.some.inj h; exact CkT_int hu
      case bool => obtain rfl := Option.some.inj h; exact CkT_bool hu
      case string => obtain rfl := Option.some.inj h; exact CkT_str hu
      case array n e =>
        split at h
        case h_2 => cases h
        rename_i l hl
        split at h
        case isFalse => cases h
        rename_i hc
        obtain rfl := Option.some.inj h
        have ih := ckT_sound d e l hl hc.1 hc.2
        obtain ⟨i, hi⟩ := Option.isSome_iff_exists.1 hin
        obtain ⟨ie, hie⟩ := Option.isSome_iff_exists.1 hc.2
        have hie2 : ie.size = l.length := by simpa [Program.cellsOf, hie] using hc.1
        have hs : i.size = (List.replicate n l).flatten.length := by simpa [Program.cellsOf, hi] using hsz
        intro em D w xs off hx
        refine ⟨_, part_agg hu rfl hi xs off w, ?_⟩
        rw [show D + (d + 1) = (D + d) + 1 by omega, Instr.checkKey]
        simp only [Sem.run_bind, run_underlying hu, Result.andThen_ok]
        simp only [Std.Legacy.Range.forIn_eq_forIn_range', Std.Legacy.Range.size, Nat.sub_zero, Nat.add_one_sub_one, Nat.div_one]
        have hfit : fitL (List.replicate n l).flatten (((xs.extract off (off + i.size)).toList.drop (0 * l.length)).take (List.replicate n l).flatten.length) := by
          rw [Nat.zero_mul, List.drop_zero, cut_list, hs, List.take_take, Nat.min_self]; exact hx
        clear hx hs hsz h hu
        generalize xs.extract off (off + i.size) = zs at hfit ⊢
        generalize (0 : Nat) = j at hfit ⊢
        induction n generalizing j with
        | zero => simp
        | succ n ihn =>
          simp only [List.replicate_succ, List.flatten_cons] at hfit
          obtain ⟨hx1, hx2⟩ := fitL_append hfit
          have hmin : min l.length (l ++ (List.replicate n l).flatten).length = l.length := by simp
          have hsub : (l ++ (List.replicate n l).flatten).length - l.length = (List.replicate n l).flatten.length := by simp
          rw [List.take_take, hmin] at hx1
          rw [List.drop_take, List.drop_drop, hsub, show j * l.length + l.length = (j + 1) * l.length by rw [Nat.add_mul, Nat.one_mul]] at hx2
          obtain ⟨a, p1, p2⟩ := ih em D w zs (j * l.length) hx1
          rw [← hc.1] at p1
          rw [List.range'_succ]
          simp only [List.forIn_cons, Sem.run_bind, run_sizeOf w hie, Result.andThen_ok, p1, p2, Sem.run_pure]
          exact ihn (j + 1) hx2
      case struct fs =>
        split at h
        case isTrue => cases h
        obtain ⟨i, hi⟩ := Option.isSome_iff_exists.1 hin
        have hs : i.size = ks.length := by simpa [Program.cellsOf, hi] using hsz
        intro em D w xs off hx
        refine ⟨_, part_agg hu rfl hi xs off w, ?_⟩
        rw [show D + (d + 1) = (D + d) + 1 by omega, Instr.checkKey]
        simp only [Sem.run_bind, run_underlying hu, Result.andThen_ok]
        rw [← Array.forIn_toList]
        have hfit : fitL ks (((xs.extract off (off + i.size)).toList.drop 0).take ks.length) := by
          rw [List.drop_zero, cut_list, hs, List.take_take, Nat.min_self]; exact hx
        have ih : ∀ t l, flatK P d t = some l → P.cellsOf t = l.length → (P.info? t).isSome → CkT P d t l := fun t l h1 h2 h3 => ckT_sound d t l h1 h2 h3
        clear hx hs hsz hu
        generalize xs.extract off (off + i.size) = zs at hfit ⊢
        generalize (0 : Nat) = o at hfit h
        generalize fs.toList = L at h ⊢
        induction L generalizing o ks with
        | nil => simp
        | cons f L ihl =>
          simp only [flatF] at h
          split at h
          case isFalse => cases h
          rename_i hf
          split at h
          case h_2 => cases h
          rename_i l r hl hr
          split at h
          case isFalse => cases h
          rename_i hc
          obtain rfl := Option.some.inj h
          obtain ⟨hx1, hx2⟩ := fitL_append hfit
          have hmin : min l.length (l ++ r).length = l.length := by simp
          have hsub : (l ++ r).length - l.length = r.length := by simp
          rw [List.take_take, hmin] at hx1
          rw [List.drop_take, List.drop_drop, hsub, ← hc.1] at hx2
          obtain ⟨a, p1, p2⟩ := ih _ _ hl hc.1 hc.2 em D w zs o hx1
          rw [← hf.1] at p1
          simp only [List.forIn_cons, Sem.run_bind, hf.2, ne_eq, not_false_eq_true, if_true, Result.andThen_ok, p1, p2, Sem.run_pure]
          exact ihl _ _ hx2 hr
theorem sameBits_fit {k : CK} {x : Value} (h : k.fit x) (n : Nat) : Instr.sameBits n x x = true := by
  cases k <;> cases x <;> first
    | exact h.elim
    | (simp [Instr.sameBits]; done)
    | (simp only [Instr.sameBits]; exact (Go.MapKept.bytes_beq _ _).2 rfl)
theorem sameBits_row {n : Nat} {vs : Array Value} : ∀ {ks : List CK}, fitL ks vs.toList → Instr.sameBits (n + 1) (.agg vs) (.agg vs) = true := by
  intro ks h
  simp only [Instr.sameBits, beq_self_eq_true, Bool.true_and]
  rw [List.all_eq_true]
  have : ∀ (ks : List CK) (l : List Value), fitL ks l → ∀ p ∈ l.zip l, Instr.sameBits n p.1 p.2 = true := by
    intro ks
    induction ks with
    | nil => intro l h p hp; cases l with
      | nil => cases hp
      | cons _ _ => exact h.elim
    | cons k ks ih => intro l h p hp; cases l with
      | nil => cases hp
      | cons x l =>
        rcases List.mem_cons.1 hp with rfl | hp
        · exact sameBits_fit h.1 n
        · exact ih l h.2 p hp
  intro p hp
  exact this ks vs.toList h p hp
def EntsL (H : PH) : List MapEntry → List (AV × AV × Nat) → Prop
  | [], [] => True
  | e :: es, u :: us => EntOk H e u ∧ EntsL H es us
  | _, _ => False
theorem EntsOk.list {H : PH} : ∀ {es : List MapEntry} {us : List (AV × AV × Nat)}, es.length = us.length → (∀ (j : Nat) (e : MapEntry) (u : AV × AV × Nat), es[j]? = some e → us[j]? = some u → EntOk H e u) → EntsL H es us
  | [], [], _, _ => trivial
  | e :: es, u :: us, hl, h => ⟨h 0 e u rfl rfl, EntsOk.list (by simpa using hl) fun j e u h1 h2 => h (j + 1) e u (by simpa using h1) (by simpa using h2)⟩
  | [], _ :: _, hl, _ => by simp at hl
  | _ :: _, [], hl, _ => by simp at hl
theorem find_rows {H : PH} {d : Nat} {kt : TypeId} {rs : List (Nat × CK)} (hk : flatK P d kt = some (expandR rs)) (hd : d ≤ 10000) (hsz : P.cellsOf kt = (expandR rs).length) (hin : (P.info? kt).isSome) {desc : TypeDesc} (hu : P.underlying kt = some desc) (hrow : desc.isRow = true)
    {k : Value} {cs : List AV} (hv : RV H k (.agg cs)) (hf : fitR rs cs) (w : World) : ∀ (es : List MapEntry) (us : List (AV × AV × Nat)) (i : Nat), EntsL H es us → (∀ u ∈ us, ∃ ds, u.1 = .agg ds ∧ fitR rs ds) →
    ∃ r, (Instr.findAsking kt k es i).run P w = .ok r w ∧ (match findM us (.agg cs) i with
      | none => r = none
      | some (j, v) => ∃ e, r = some (j, e.val) ∧ i ≤ j ∧ es[j - i]? = some e ∧ e.key = k ∧ RV H e.val v)
  | [], [], i, _, _ => ⟨none, by simp [Instr.findAsking], rfl⟩
  | [], _ :: _, _, h, _ => h.elim
  | _ :: _, [], _, h, _ => h.elim
  | e :: es, u :: us, i, h, hfit => by
    obtain ⟨⟨h1, h2, h3⟩, h4⟩ := h
    obtain ⟨ds, hds, hfd⟩ := hfit u (by simp)
    rw [hds] at h1
    cases hv with
    | agg vs _ hone hl hR =>
      generalize hek : e.key = ek at h1
      cases h1 with
      | agg ws _ hone' hl' hR' =>
        have r1 : RVA H vs cs := ⟨hl, hR⟩
        have r2 : RVA H ws ds := ⟨hl', hR'⟩
        obtain ⟨f1, e1⟩ := fitR_sound _ cs vs.toList hf (RVA.iff_list.1 r1).1 (RVA.iff_list.1 r1).2
        obtain ⟨f2, e2⟩ := fitR_sound _ ds ws.toList hfd (RVA.iff_list.1 r2).1 (RVA.iff_list.1 r2).2
        have hlv : vs.size = (expandR rs).length := by have := fitL_length f1; simpa using this
        have hlw : ws.size = (expandR rs).length := by have := fitL_length f2; simpa using this
        obtain ⟨inf, hi⟩ := Option.isSome_iff_exists.1 hin
        have hs : inf.size = (expandR rs).length := by simpa [Program.cellsOf, hi] using hsz
        obtain ⟨p, q, r, p1, p2, p3, hr⟩ := flatK_sound d kt _ hk hsz hin (10000 - d) w vs ws 0 (by rw [List.drop_zero, ← hlv, List.take_of_length_le (by simp)]; exact f1) (by rw [List.drop_zero, ← hlw, List.take_of_length_le (by simp)]; exact f2)
        rw [part_agg hu hrow hi] at p1 p2
        have ex : vs.extract 0 (0 + inf.size) = vs := by rw [Nat.zero_add, hs, ← hlv]; simp
        have ew : ws.extract 0 (0 + inf.size) = ws := by rw [Nat.zero_add, hs, ← hlw]; simp
        rw [ex] at p1
        rw [ew] at p2
        simp only [Result.ok.injEq, and_true] at p1 p2
        subst p1; subst p2
        rw [show 10000 - d + d = 10000 by omega] at p3
        have hEq : (vs = ws) ↔ r = true := by
          rw [hr, List.drop_zero, List.drop_zero, ← hlv, List.take_of_length_le (by simp), List.take_of_length_le (by simp [hlv, hlw])]
          exact ⟨fun h => by rw [h], fun h => Array.toList_inj.1 h⟩
        have hA : peq (.agg cs) (.agg ds) = r := by
          rw [Bool.eq_iff_iff, peq_iff, ← hEq, e1, e2]
          constructor
          · intro h
            have h5 := AV.agg.inj h
            have : ∀ a b : List Value, a.map AV.v = b.map AV.v → a = b := fun a b h => by
              induction a generalizing b with
              | nil => cases b with
                | nil => rfl
                | cons _ _ => cases h
              | cons x a ih => cases b with
                | nil => cases h
                | cons y b =>
                  obtain ⟨h6, h7⟩ := List.cons.inj h
                  rw [AV.v.inj h6, ih b h7]
            exact Array.toList_inj.1 (this _ _ h5)
          · rintro rfl; rfl
        obtain ⟨r', hr1, hr2⟩ := find_rows hk hd hsz hin hu hrow (.agg vs cs hone hl hR) hf w es us (i + 1) h4 fun u hu => hfit u (by simp [hu])
        have hrun : (Op.equal kt (.agg vs) (.agg ws)).run P w = .ok r w := p3
        simp only [findM, hds, hA]
        cases r with
        | true =>
          refine ⟨some (i, e.val), by simp [Instr.findAsking, hek, hrun], ?_⟩
          rw [if_pos rfl]
          refine ⟨e, rfl, Nat.le_refl _, by simp, ?_, h2⟩
          rw [hek, hEq.2 rfl]
        | false =>
          refine ⟨r', by simp [Instr.findAsking, hek, hrun, hr1], ?_⟩
          rw [if_neg (by simp)]
          revert hr2
          cases findM us (.agg cs) (i + 1) with
          | none => exact id
          | some jv =>
            obtain ⟨j, v⟩ := jv
            rintro ⟨e', q1, q2, q3, q4, q5⟩
            refine ⟨e', q1, by omega, ?_, q4, q5⟩
            rw [show j - i = (j - (i + 1)) + 1 by omega]; simpa using q3
end
end Go.Av
namespace Go.Av
open Go
structure KeyRow (P : Program) (kt : TypeId) (rs : List (Nat × CK)) : Prop where
  flat : ∃ d, d ≤ 10000 ∧ flatK P d kt = some (expandR rs)
  size : P.cellsOf kt = (expandR rs).length
  info : (P.info? kt).isSome
  row : ∃ desc, P.underlying kt = some desc ∧ desc.isRow = true ∧ (match P.underlying kt with | some (.array _ _) | some (.struct _) => true | _ => false) = true
section
variable {P : Program} {H : PH} {w : World}
theorem KeyRow.check {kt : TypeId} {rs : List (Nat × CK)} (h : KeyRow P kt rs) {k : Value} {cs : List AV} (hv : RV H k (.agg cs)) (hf : fitR rs cs) (em : Bool) (w : World) : (Instr.checkKey em 10000 kt k).run P w = .ok () w := by
  obtain ⟨d, hd, hk⟩ := h.flat
  obtain ⟨desc, hu, hrow, _⟩ := h.row
  cases hv with
  | agg vs _ hone hl hR =>
    have r1 : RVA H vs cs := ⟨hl, hR⟩
    obtain ⟨f1, e1⟩ := fitR_sound _ cs vs.toList hf (RVA.iff_list.1 r1).1 (RVA.iff_list.1 r1).2
    have hlv : vs.size = (expandR rs).length := by have := fitL_length f1; simpa using this
    obtain ⟨inf, hi⟩ := Option.isSome_iff_exists.1 h.info
    have hs : inf.size = (expandR rs).length := by simpa [Program.cellsOf, hi] using h.size
    obtain ⟨p, p1, p2⟩ := ckT_sound d kt _ hk h.size h.info em (10000 - d) w vs 0 (by rw [List.drop_zero, ← hlv, List.take_of_length_le (by simp)]; exact f1)
    rw [part_agg hu hrow hi] at p1
    have ex : vs.extract 0 (0 + inf.size) = vs := by rw [Nat.zero_add, hs, ← hlv]; simp
    rw [ex] at p1
    simp only [Result.ok.injEq, and_true] at p1
    subst p1
    rwa [show 10000 - d + d = 10000 by omega] at p2
theorem KeyRow.find {kt : TypeId} {rs : List (Nat × CK)} (h : KeyRow P kt rs) {k : Value} {cs : List AV} (hv : RV H k (.agg cs)) (hf : fitR rs cs) (w : World) {es : List MapEntry} {us : List (AV × AV × Nat)} (hE : EntsL H es us) (hfit : ∀ u ∈ us, ∃ ds, u.1 = .agg ds ∧ fitR rs ds) :
    ∃ r, (Instr.findKey kt k es).run P w = .ok r w ∧ (match findM us (.agg cs) 0 with
      | none => r = none
      | some (j, v) => ∃ e, r = some (j, e.val) ∧ es[j]? = some e ∧ e.key = k ∧ RV H e.val v) := by
  obtain ⟨d, hd, hk⟩ := h.flat
  obtain ⟨desc, hu, hrow, hw⟩ := h.row
  obtain ⟨r, h1, h2⟩ := find_rows hk hd h.size h.info hu hrow hv hf w es us 0 hE hfit
  refine ⟨r, by rw [run_findKey_eq w hw]; exact h1, ?_⟩
  revert h2
  cases findM us (.agg cs) 0 with
  | none => exact id
  | some jv =>
    obtain ⟨j, v⟩ := jv
    rintro ⟨e, q1, _, q3, q4, q5⟩
    exact ⟨e, q1, by simpa using q3, q4, q5⟩
theorem run_lookup {mt kt et : TypeId} {rs : List (Nat × CK)} (hm : P.underlying mt = some (.map kt et)) (h : KeyRow P kt rs) {i : TypeInfo} (hi : P.info? et = some i) {z : Value} (hz : i.zero = some z) {k : Value} {cs : List AV} (hv : RV H k (.agg cs)) (hf : fitR rs cs)
    {r : Nat} {es : Array MapEntry} {clock : Nat} (hb : w.heap[r]? = some (.map es clock)) {us : List (AV × AV × Nat)} (hE : EntsL H es.toList us) (hfit : ∀ u ∈ us, ∃ ds, u.1 = .agg ds ∧ fitR rs ds) (ok : Bool) :
    ∃ x, (Instr.lookup mt (.map (some r)) k ok).run P w = .ok x w ∧ (match findM us (.agg cs) 0 with
      | none => x = if ok then .tuple #[z, .bool false] else z
      | some (_, v) => ∃ y, RV H y v ∧ x = if ok then .tuple #[y, .bool true] else y) := by
  obtain ⟨q, h1, h2⟩ := h.find hv hf w hE hfit
  have hc := h.check hv hf es.isEmpty w
  have hzv : (zeroValue et).run P w = .ok z w := by simp [zeroValue, typeInfo, hi, hz]
  revert h2
  cases findM us (.agg cs) 0 with
  | none =>
    rintro rfl
    exact ⟨_, by simp [Instr.lookup, run_underlying hm, MapKept.run_getObj_map hb, hc, h1, hzv], rfl⟩
  | some jv =>
    obtain ⟨j, v⟩ := jv
    rintro ⟨e, rfl, _, _, q5⟩
    exact ⟨_, by simp [Instr.lookup, run_underlying hm, MapKept.run_getObj_map hb, hc, h1], e.val, q5, rfl⟩
theorem EntsL.length : ∀ {es : List MapEntry} {us : List (AV × AV × Nat)}, EntsL H es us → es.length = us.length
  | [], [], _ => rfl
  | _ :: _, _ :: _, h => by simp [EntsL.length h.2]
theorem EntsL.set : ∀ {es : List MapEntry} {us : List (AV × AV × Nat)} {j : Nat} {e : MapEntry} {k value : Value} {v : AV}, EntsL H es us → es[j]? = some e → e.key = k → RV H value v →
    EntsL H (es.modify j fun e => { e with key := k, val := value }) (us.modify j fun u => (u.1, v, u.2.2))
  | [], _, _, _, _, _, _, _, h, _, _ => by simp at h
  | _ :: _, [], _, _, _, _, _, h, _, _, _ => h.elim
  | e0 :: es, u :: us, 0, e, k, value, v, h, he, hk, hv => by
    simp at he; subst he
    simp only [List.modify_zero_cons]
    exact ⟨⟨by rw [← hk]; exact h.1.1, hv, h.1.2.2⟩, h.2⟩
  | e0 :: es, u :: us, j + 1, e, k, value, v, h, he, hk, hv => by
    simp only [List.modify_succ_cons]
    exact ⟨h.1, EntsL.set h.2 (by simpa using he) hk hv⟩
theorem EntsL.push : ∀ {es : List MapEntry} {us : List (AV × AV × Nat)} {e : MapEntry} {u : AV × AV × Nat}, EntsL H es us → EntOk H e u → EntsL H (es ++ [e]) (us ++ [u])
  | [], [], _, _, _, h => ⟨h, trivial⟩
  | _ :: _, _ :: _, _, _, h, h2 => ⟨h.1, EntsL.push h.2 h2⟩
theorem run_mapUpdate {mt kt et : TypeId} {rs : List (Nat × CK)} (hm : P.underlying mt = some (.map kt et)) (h : KeyRow P kt rs) {k value : Value} {cs : List AV} {v : AV} (hv : RV H k (.agg cs)) (hf : fitR rs cs) (hval : RV H value v)
    {r : Nat} {es : Array MapEntry} {clock : Nat} (hb : w.heap[r]? = some (.map es clock)) {us : List (AV × AV × Nat)} (hE : EntsL H es.toList us) (hfit : ∀ u ∈ us, ∃ ds, u.1 = .agg ds ∧ fitR rs ds) :
    ∃ es' : Array MapEntry, (Instr.mapUpdate mt (.map (some r)) k value).run P w = .ok () { w with heap := w.heap.setIfInBounds r (.map es' (updM us (.agg cs) v clock).2) } ∧ EntsL H es'.toList (updM us (.agg cs) v clock).1 := by
  obtain ⟨q, h1, h2⟩ := h.find hv hf w hE hfit
  have hc := h.check hv hf false w
  unfold updM
  revert h2
  cases findM us (.agg cs) 0 with
  | none =>
    rintro rfl
    refine ⟨es.push { key := k, val := value, born := clock }, ?_, ?_⟩
    · simp [Instr.mapUpdate, run_underlying hm, MapKept.run_getObj_map hb, hc, h1, MapKept.run_setObj_map _ hb]
    · simp only [Array.toList_push]
      exact hE.push ⟨hv, hval, rfl⟩
  | some jv =>
    obtain ⟨j, v0⟩ := jv
    rintro ⟨e, rfl, q3, q4, q5⟩
    have hsame : Instr.sameBits 10000 k k = true := by
      cases hv with
      | agg vs _ hone hl hR =>
        have r1 : RVA H vs cs := ⟨hl, hR⟩
        obtain ⟨f1, e1⟩ := fitR_sound _ cs vs.toList hf (RVA.iff_list.1 r1).1 (RVA.iff_list.1 r1).2
        have e3 : (10000 : Nat) = 9999 + 1 := rfl
        rw [e3]
        exact sameBits_row f1
    have hkeep : (Instr.keyThatStays k k).run P w = .ok k w := by simp [Instr.keyThatStays, hsame]
    have hkey : ((es[j]?).map (·.key)).getD k = k := by
      have : es[j]? = some e := by rw [← Array.getElem?_toList]; exact q3
      rw [this]; simpa using q4
    refine ⟨es.modify j fun e => { e with key := k, val := value }, ?_, ?_⟩
    · simp only [Instr.mapUpdate, Sem.run_bind, run_underlying hm, Result.andThen_ok, MapKept.run_getObj_map hb, hc, h1, hkey, hkeep, MapKept.run_setObj_map _ hb]
    · rw [Array.toList_modify]
      exact hE.set q3 q4 hval
theorem EntsL.key : ∀ {es : List MapEntry} {us : List (AV × AV × Nat)} {j : Nat} {e : MapEntry} {k : Value}, EntsL H es us → es[j]? = some e → e.key = k →
    EntsL H (es.modify j fun e => { e with key := k }) us ∧ ∃ u, us[j]? = some u ∧ e.born = u.2.2
  | [], _, _, _, _, _, h, _ => by simp at h
  | _ :: _, [], _, _, _, h, _, _ => h.elim
  | e0 :: es, u :: us, 0, e, k, h, he, hk => by
    simp at he; subst he
    simp only [List.modify_zero_cons]
    exact ⟨⟨⟨by rw [← hk]; exact h.1.1, h.1.2.1, h.1.2.2⟩, h.2⟩, u, rfl, h.1.2.2⟩
  | e0 :: es, u :: us, j + 1, e, k, h, he, hk => by
    simp only [List.modify_succ_cons]
    obtain ⟨h1, u', h2, h3⟩ := EntsL.key h.2 (by simpa using he) hk
    exact ⟨⟨h.1, h1⟩, u', by simpa using h2, h3⟩
theorem run_mapEntry {mt kt et : TypeId} {rs : List (Nat × CK)} (hm : P.underlying mt = some (.map kt et)) (h : KeyRow P kt rs) {i : TypeInfo} (hi : P.info? et = some i) {z : Value} (hz : i.zero = some z) {za : AV} (hza : RV H z za) {k : Value} {cs : List AV} (hv : RV H k (.agg cs)) (hf : fitR rs cs)
    {r : Nat} {es : Array MapEntry} {clock : Nat} (hb : w.heap[r]? = some (.map es clock)) {us : List (AV × AV × Nat)} (hE : EntsL H es.toList us) (hfit : ∀ u ∈ us, ∃ ds, u.1 = .agg ds ∧ fitR rs ds) :
    ∃ (es' : Array MapEntry) (v : Value), (Instr.mapEntry mt (.map (some r)) k).run P w = .ok (.tuple #[v, goInt (entM us (.agg cs) za clock).2.1]) { w with heap := w.heap.setIfInBounds r (.map es' (entM us (.agg cs) za clock).2.2.2) } ∧
      RV H v (entM us (.agg cs) za clock).1 ∧ EntsL H es'.toList (entM us (.agg cs) za clock).2.2.1 := by
  obtain ⟨q, h1, h2⟩ := h.find hv hf w hE hfit
  have hc := h.check hv hf false w
  have hzv : (zeroValue et).run P w = .ok z w := by simp [zeroValue, typeInfo, hi, hz]
  unfold entM
  revert h2
  cases findM us (.agg cs) 0 with
  | none =>
    rintro rfl
    refine ⟨es.push { key := k, val := z, born := clock }, z, ?_, hza, ?_⟩
    · simp [Instr.mapEntry, run_underlying hm, MapKept.run_getObj_map hb, hc, h1, hzv, MapKept.run_setObj_map _ hb]
    · simp only [Array.toList_push]
      exact hE.push ⟨hv, hza, rfl⟩
  | some jv =>
    obtain ⟨j, v0⟩ := jv
    rintro ⟨e, rfl, q3, q4, q5⟩
    have hsame : Instr.sameBits 10000 k k = true := by
      cases hv with
      | agg vs _ hone hl hR =>
        have r1 : RVA H vs cs := ⟨hl, hR⟩
        obtain ⟨f1, e1⟩ := fitR_sound _ cs vs.toList hf (RVA.iff_list.1 r1).1 (RVA.iff_list.1 r1).2
        have e3 : (10000 : Nat) = 9999 + 1 := rfl
        rw [e3]
        exact sameBits_row f1
    have hkeep : (Instr.keyThatStays k k).run P w = .ok k w := by simp [Instr.keyThatStays, hsame]
    have hej : es[j]? = some e := by rw [← Array.getElem?_toList]; exact q3
    have hkey : ((es[j]?).map (·.key)).getD k = k := by rw [hej]; simpa using q4
    obtain ⟨g1, u, g2, g3⟩ := hE.key q3 q4
    refine ⟨es.modify j fun e => { e with key := k }, e.val, ?_, q5, ?_⟩
    · have hborn : ((es[j]?).map (fun x => ((x.born : Nat) : Int))).getD 0 = ((((us[j]?).map (·.2.2)).getD 0 : Nat) : Int) := by rw [hej, g2]; simp [g3]
      simp only [Instr.mapEntry, Sem.run_bind, run_underlying hm, Result.andThen_ok, MapKept.run_getObj_map hb, hc, h1, hkey, hkeep, MapKept.run_setObj_map _ hb, Sem.run_pure, hborn]
    · rw [Array.toList_modify]
      exact g1
theorem EntsL.born : ∀ {es : List MapEntry} {us : List (AV × AV × Nat)} (b : Int), EntsL H es us → es.findIdx? (fun e => (e.born : Int) == b) = bornM us b
  | [], [], _, _ => rfl
  | e :: es, u :: us, b, h => by
    have h1 : e.born = u.2.2 := h.1.2.2
    have h2 := EntsL.born b h.2
    simp only [bornM] at h2 ⊢
    rw [List.findIdx?_cons, List.findIdx?_cons, h1, h2]
theorem EntsL.val : ∀ {es : List MapEntry} {us : List (AV × AV × Nat)} (j : Nat) {value : Value} {v : AV}, EntsL H es us → RV H value v →
    EntsL H (es.modify j fun e => { e with val := value }) (us.modify j fun u => (u.1, v, u.2.2))
  | [], [], _, _, _, h, _ => by simpa using h
  | e0 :: es, u :: us, 0, value, v, h, hv => by
    simp only [List.modify_zero_cons]
    exact ⟨⟨h.1.1, hv, h.1.2.2⟩, h.2⟩
  | e0 :: es, u :: us, j + 1, value, v, h, hv => by
    simp only [List.modify_succ_cons]
    exact ⟨h.1, EntsL.val j h.2 hv⟩
theorem run_entryStore {mt : TypeId} {value : Value} {v : AV} (hval : RV H value v) {kd : IntKind} {b : Int} {j : Nat}
    {r : Nat} {es : Array MapEntry} {clock : Nat} (hb : w.heap[r]? = some (.map es clock)) {us : List (AV × AV × Nat)} (hE : EntsL H es.toList us) (hj : bornM us b = some j) :
    ∃ es' : Array MapEntry, (Instr.entryStore mt (.map (some r)) (.int kd b) value).run P w = .ok () { w with heap := w.heap.setIfInBounds r (.map es' clock) } ∧ EntsL H es'.toList (us.modify j fun u => (u.1, v, u.2.2)) := by
  have hf : es.findIdx? (fun e => (e.born : Int) == b) = some j := by
    have e := List.findIdx?_toArray (fun e : MapEntry => (e.born : Int) == b) es.toList
    rw [Array.toArray_toList] at e
    rw [e, hE.born b, hj]
  refine ⟨es.modify j fun e => { e with val := value }, ?_, ?_⟩
  · simp [Instr.entryStore, MapKept.run_getObj_map hb, asInt, asIntOf, hf, MapKept.run_setObj_map _ hb]
  · rw [Array.toList_modify]
    exact hE.val j hval
end
end Go.Av
namespace Go.Av
open Go
section
variable {P : Program} {kp : AV → Hp → Prop} {o : Oper} {a : Act} {f : Fr} {w : World} {H : PH} {s : Hp} {K : AV → Hp → Prop}
theorem RV.mapr_val {H : PH} {x : Value} {l : Nat} (h : RV H x (.mapr l)) : x = .map (some l) := by cases h; rfl
theorem RV.int_val {H : PH} {x : Value} {k : IntKind} {n : Int} (h : RV H x (.v (.int k n))) : x = .int k n := by cases h; rfl
theorem s_mkM (t : TypeId) (ho : o.op = .makeMap t none) (hh : Holds H s w) (hG : G ⟨P, kp⟩ .mkM f s K) : GoalW P kp o a w H s K := by
  refine .value (v := .map (some w.heap.size)) (w' := w.alloc (.map #[] 0)) ?_ (Step.newOther hh _ (.mp [] 0) ⟨#[], heap_alloc_new w _, rfl, fun j e u h => by simp at h⟩) (.mapr _) (hG _ hh.newS)
  simp [execOp, ho, Instr.makeMap]
theorem s_lkp (mt kt et : TypeId) (x k : Operand) (ok : Bool) (ho : o.op = .lookup mt x k ok) {rs : List (Nat × CK)} (hm : P.underlying mt = some (.map kt et)) (hk : KeyRow P kt rs) {i : TypeInfo} (hi : P.info? et = some i) {z : Value} (hz : i.zero = some z) {za : AV} (hza : RV H z za)
    (hx : opOk x = true) (hkk : opOk k = true) (hf : FRel H a f) (hh : Holds H s w) (hG : G ⟨P, kp⟩ (.lkp ok rs za x k) f s K) : GoalW P kp o a w H s K := by
  have hv := hf.ev x hx
  have hvk := hf.ev k hkk
  simp only [G] at hG
  split at hG
  case h_2 => exact hG.elim
  rename_i l cs he hek
  rw [he] at hv
  rw [hek] at hvk
  have hav := hv.mapr_val
  split at hG
  case h_2 => exact hG.elim
  rename_i us clock hs
  obtain ⟨hfit, hkeys, hG⟩ := hG
  obtain ⟨es, hb, hE1, hE2⟩ := hh.ob l _ hs
  have hE : EntsL H es.toList us := EntsOk.list (by simpa using hE1) fun j e u h1 h2 => hE2 j e u (by simpa using h1) h2
  obtain ⟨v, hrun, hres⟩ := run_lookup (w := w) hm hk hi hz hvk hfit hb hE hkeys ok
  have hexec : (execOp a.eval o).run P w = .ok (.value v) w := by simp [execOp, ho, hav, hrun]
  revert hG hres
  cases findM us (.agg cs) 0 with
  | none =>
    intro hG hres
    subst hres
    refine .same hh hexec ?_ hG
    cases ok with
    | false => exact hza
    | true => exact .tup _ _ rfl (fun j u hu => by
        match j, hu with
        | 0, hu => simp at hu; subst hu; exact hza
        | 1, hu => simp at hu; subst hu; exact .v _ rfl
        | j + 2, hu => simp at hu)
  | some jv =>
    obtain ⟨j, va⟩ := jv
    intro hG hres
    obtain ⟨y, hy, rfl⟩ := hres
    refine .same hh hexec ?_ hG
    cases ok with
    | false => exact hy
    | true => exact .tup _ _ rfl (fun j u hu => by
        match j, hu with
        | 0, hu => simp at hu; subst hu; exact hy
        | 1, hu => simp at hu; subst hu; exact .v _ rfl
        | j + 2, hu => simp at hu)
theorem EntsL.ok {H : PH} : ∀ {es : List MapEntry} {us : List (AV × AV × Nat)}, EntsL H es us → ∀ (j : Nat) (e : MapEntry) (u : AV × AV × Nat), es[j]? = some e → us[j]? = some u → EntOk H e u
  | _ :: _, _ :: _, h, 0, e, u, he, hu => by simp at he hu; subst he; subst hu; exact h.1
  | _ :: _, _ :: _, h, j + 1, e, u, he, hu => EntsL.ok h.2 j e u (by simpa using he) (by simpa using hu)
  | [], _, _, _, _, _, he, _ => by simp at he
theorem s_mup (mt kt et : TypeId) (x k v : Operand) (ho : o.op = .mapUpdate mt x k v ∨ o.op = .insert mt x k v) {rs : List (Nat × CK)} (hm : P.underlying mt = some (.map kt et)) (hk : KeyRow P kt rs)
    (hx : opOk x = true) (hkk : opOk k = true) (hvv : opOk v = true) (hf : FRel H a f) (hh : Holds H s w) (hG : G ⟨P, kp⟩ (.mup rs x k v) f s K) : GoalW P kp o a w H s K := by
  have hv := hf.ev x hx
  have hvk := hf.ev k hkk
  have hval := hf.ev v hvv
  simp only [G] at hG
  split at hG
  case h_2 => exact hG.elim
  rename_i l cs he hek
  rw [he] at hv
  rw [hek] at hvk
  have hav := hv.mapr_val
  split at hG
  case h_2 => exact hG.elim
  rename_i us clock hs
  obtain ⟨hfit, hkeys, hG⟩ := hG
  obtain ⟨es, hb, hE1, hE2⟩ := hh.ob l _ hs
  have hE : EntsL H es.toList us := EntsOk.list (by simpa using hE1) fun j e u h1 h2 => hE2 j e u (by simpa using h1) h2
  obtain ⟨es', hrun, hE'⟩ := run_mapUpdate (w := w) hm hk hvk hfit hval hb hE hkeys
  have hlt : l < w.heap.size := (Array.getElem?_eq_some_iff.1 hb).1
  have hst := Step.setOther hh (o' := .map es' (updM us (.agg cs) (Go.Av.ev f v) clock).2) (ob := .mp (updM us (.agg cs) (Go.Av.ev f v) clock).1 (updM us (.agg cs) (Go.Av.ev f v) clock).2) (by simp [hs]) hb (fun c e f h => by cases h)
    ⟨es', by
      show (w.heap.setIfInBounds l _)[l]? = _
      exact Array.getElem?_setIfInBounds_self_of_lt hlt, by simpa using hE'.length, fun j e u h1 h2 => hE'.ok j e u (by simpa using h1) h2⟩
  refine .skip ?_ hst hG
  rcases ho with ho | ho <;> simp [execOp, ho, hav, hrun]
theorem s_ment (mt kt et : TypeId) (x k : Operand) (ho : o.op = .mapEntry mt x k) {rs : List (Nat × CK)} (hm : P.underlying mt = some (.map kt et)) (hk : KeyRow P kt rs) {i : TypeInfo} (hi : P.info? et = some i) {z : Value} (hz : i.zero = some z) {za : AV} (hza : RV H z za)
    (hx : opOk x = true) (hkk : opOk k = true) (hf : FRel H a f) (hh : Holds H s w) (hG : G ⟨P, kp⟩ (.ment rs za x k) f s K) : GoalW P kp o a w H s K := by
  have hv := hf.ev x hx
  have hvk := hf.ev k hkk
  simp only [G] at hG
  split at hG
  case h_2 => exact hG.elim
  rename_i l cs he hek
  rw [he] at hv
  rw [hek] at hvk
  have hav := hv.mapr_val
  split at hG
  case h_2 => exact hG.elim
  rename_i us clock hs
  obtain ⟨hfit, hkeys, hG⟩ := hG
  obtain ⟨es, hb, hE1, hE2⟩ := hh.ob l _ hs
  have hE : EntsL H es.toList us := EntsOk.list (by simpa using hE1) fun j e u h1 h2 => hE2 j e u (by simpa using h1) h2
  obtain ⟨es', v, hrun, hrv, hE'⟩ := run_mapEntry (w := w) hm hk hi hz hza hvk hfit hb hE hkeys
  have hlt : l < w.heap.size := (Array.getElem?_eq_some_iff.1 hb).1
  have hst := Step.setOther hh (o' := .map es' (entM us (.agg cs) za clock).2.2.2) (ob := .mp (entM us (.agg cs) za clock).2.2.1 (entM us (.agg cs) za clock).2.2.2) (by simp [hs]) hb (fun c e f h => by cases h)
    ⟨es', by
      show (w.heap.setIfInBounds l _)[l]? = _
      exact Array.getElem?_setIfInBounds_self_of_lt hlt, by simpa using hE'.length, fun j e u h1 h2 => hE'.ok j e u (by simpa using h1) h2⟩
  refine .value (v := .tuple #[v, .int .i64 ((entM us (.agg cs) za clock).2.1 : Nat)]) ?_ hst (.tup _ _ rfl (fun j u hu => by
        match j, hu with
        | 0, hu => simp at hu; subst hu; exact hrv
        | 1, hu => simp at hu; subst hu; exact .v _ rfl
        | j + 2, hu => simp at hu)) hG
  simp [execOp, ho, hav, hrun, goInt]
theorem s_mst (mt : TypeId) (x i v : Operand) (ho : o.op = .entryStore mt x i v)
    (hx : opOk x = true) (hii : opOk i = true) (hvv : opOk v = true) (hf : FRel H a f) (hh : Holds H s w) (hG : G ⟨P, kp⟩ (.mst x i v) f s K) : GoalW P kp o a w H s K := by
  have hv := hf.ev x hx
  have hvi := hf.ev i hii
  have hval := hf.ev v hvv
  simp only [G] at hG
  split at hG
  case h_2 => exact hG.elim
  rename_i l kd b he hei
  rw [he] at hv
  rw [hei] at hvi
  have hav := hv.mapr_val
  have hai : a.eval i = .int kd b := hvi.int_val
  split at hG
  case h_2 => exact hG.elim
  rename_i us clock hs
  split at hG
  case h_2 => exact hG.elim
  rename_i j hj
  obtain ⟨es, hb, hE1, hE2⟩ := hh.ob l _ hs
  have hE : EntsL H es.toList us := EntsOk.list (by simpa using hE1) fun j e u h1 h2 => hE2 j e u (by simpa using h1) h2
  obtain ⟨es', hrun, hE'⟩ := run_entryStore (P := P) (w := w) (mt := mt) (kd := kd) hval hb hE hj
  have hlt : l < w.heap.size := (Array.getElem?_eq_some_iff.1 hb).1
  have hst := Step.setOther hh (o' := .map es' clock) (ob := .mp (us.modify j fun u => (u.1, Go.Av.ev f v, u.2.2)) clock) (by simp [hs]) hb (fun c e f h => by cases h)
    ⟨es', by
      show (w.heap.setIfInBounds l _)[l]? = _
      exact Array.getElem?_setIfInBounds_self_of_lt hlt, by simpa using hE'.length, fun j e u h1 h2 => hE'.ok j e u (by simpa using h1) h2⟩
  refine .skip ?_ hst hG
  simp [execOp, ho, hav, hai, hrun]
end
end Go.Av
namespace Go.Av
open Go
def szOf (P : Program) (t : TypeId) : Option Nat := (P.info? t).map (·.size)
def placeOf (P : Program) (t : TypeId) (i : Nat) : Option (Nat × Nat) :=
  match P.underlying t with
  | some (.struct fs) => (fs.toList.mapM (fun f => (P.info? f.type).map fun j => (f.offset, j.size))).bind fun ps => ps[i]?
  | some (.array _ e) => (P.info? e).map fun ie => (i * ie.size, ie.size)
  | _ => none
def placesOk (P : Program) (t : TypeId) : Bool :=
  match P.underlying t with
  | some (.struct fs) => (fs.toList.mapM (fun f => (P.info? f.type).map fun j => (f.offset, j.size))).isSome
  | some (.array _ e) => (P.info? e).isSome
  | _ => false
def zOf (P : Program) (t : TypeId) : Option (Array Value) :=
  match P.info? t with
  | some i => match i.zero with
    | some z => if z.cells.toList.all (·.oneCell') then some z.cells else none
    | none => none
  | none => none
def resPart (P : Program) (t : TypeId) (p : Nat × Operand) : Option (Nat × Nat × Operand) :=
  match placeOf P t p.1 with
  | some (off, sz) => if 0 < sz ∧ opOk p.2 = true then some (off, sz, p.2) else none
  | none => none
def resParts (P : Program) (t : TypeId) : List (Nat × Operand) → Option (List (Nat × Nat × Operand))
  | [] => some []
  | p :: r => match resPart P t p, resParts P t r with
    | some q, some qs => some (q :: qs)
    | _, _ => none
def inOrder : Nat → List (Nat × Operand) → Option (List Operand)
  | _, [] => some []
  | i, (j, x) :: r => if i = j ∧ opOk x = true then (inOrder (i + 1) r).map (x :: ·) else none
def prepLoad (P : Program) (t : TypeId) (x : Operand) : Option AOp :=
  match P.underlying t, szOf P t with
  | some d, some n => if opOk x = true ∧ (d.isRow = true ∨ n = 1) then some (.load d.isRow n x) else none
  | _, _ => none
structure Env where
  roB : List Nat
  roD : List Nat
  wr : List Nat
  mu : List Nat
  ty : Bool
  sx : Bool
  /-- slots that are not written -/
  pins : List Nat := []
  /-- is what is not covered refused? -/
  rf : Bool := false
def Env.der (env : Env) : Operand → Bool
  | .tmp u => env.roD.contains u
  | _ => false
def Env.keep (env : Env) : Option Nat → Bool
  | some d => !env.wr.contains d
  | none => true
def Env.mut (env : Env) : Option Nat → Bool
  | some d => env.mu.contains d
  | none => false
def Env.mutOp (env : Env) : Operand → Bool
  | .tmp u => env.mu.contains u
  | _ => false
def Env.box (env : Env) : Option Nat → Bool
  | some d => env.roB.contains d
  | none => false
def prepSlice (P : Program) (env : Env) (dst : Option Nat) (t : TypeId) (x : Operand) (lo hi mx : Option Operand) : Option AOp :=
  if opOk x = true ∧ lo.all opOk = true ∧ hi.all opOk = true then
    match P.underlying t, mx with
    | some (.slice e), none => match szOf P e with
      | some k => some (.slc k x lo hi)
      | none => none
    | some (.slice e), some (.const (.int _ 0)) => match lo, hi with
      | none, some (.const (.int _ 0)) => if (P.info? e).isSome then some (.slc0 x) else none
      | _, _ => none
    | some .string, none => some (.slcS x lo hi)
    | some (.array n e), none => match szOf P e with
      | some k => if 0 < k then some (if env.der x = true then .slcR k n x lo hi else .slcA k n x lo hi (env.keep dst)) else none
      | none => none
    | _, _ => none
  else none
def prepEq (P : Program) (neg : Bool) (t : TypeId) (x y : Operand) : Option AOp :=
  match P.underlying t with
  | some .bool => some (.eqb neg x y)
  | some (.slice _) => match y with
    | .const (.slice none 0 0) => some (.eqn neg x)
    | _ => none
  | some (.pointer _) => some (.eqp neg x y)
  | some (.int _) => some (.bin (if neg then .neq else .eql) x y)
  | some .string => some (.bin (if neg then .neq else .eql) x y)
  | some d => match flatK P 20 t with
    | some ks => if P.cellsOf t = ks.length ∧ (P.info? t).isSome = true ∧ d.isRow = true ∧ P.eqGuardType P.depth t = false then some (.eqv neg (runsOf ks) x y) else none
    | none => none
  | none => none
def prepCall (P : Program) (env : Env) (dst : Option Nat) (c : Call) : Option AOp :=
  match c.callee, c.args.toList, c.argTypes.toList with
  | .value (.func g), args, _ => if callOk P g = true ∧ args.all opOk = true then some (.callF g args) else none
  | .builtin .len, [x], [t] => match P.underlying t with
    | some (.slice _) => if opOk x = true then some (.len x) else none
    | some .string => if opOk x = true then some (.lenT x) else none
    | some (.array n _) => some (.lenA n)
    | _ => none
  | .builtin .append, [x, y], [t, t'] => match P.underlying t with
    | some (.slice e) => match P.info? e with
      | some i => match i.zero with
        | some z => if t = t' ∧ z.cells.size = i.size ∧ 0 < i.size ∧ opOk x = true ∧ opOk y = true then (if env.mut dst = true then (if z.cells.toList.all (·.oneCell') = true then some (.appM i.size i.bytes x y) else none) else some (.app i.size i.bytes x y)) else none
        | none => none
      | none => none
    | _ => none
  | .builtin .max, [x, y], _ => if opOk x = true ∧ opOk y = true then some (.mm true .i64 x y) else none
  | .builtin .min, [x, y], _ => if opOk x = true ∧ opOk y = true then some (.mm false .i64 x y) else none
  | .builtin .copy, [x, y], [t, _] => match P.underlying t with
    | some (.slice e) => match szOf P e with
      | some k => if opOk x = true ∧ opOk y = true then some (.cpy k x y) else none
      | none => none
    | _ => none
  | _, _, _ => none
def prepOld (P : Program) (env : Env) (o : Oper) : Option AOp :=
  match o.op with
  | .move x | .assign x => if opOk x = true then some (.mv x) else none
  | .pick c x y => if opOk c = true ∧ opOk x = true ∧ opOk y = true then some (.pick c x y) else none
  | .alloc T => match zOf P T with
    | some z => some (.alloc T (z.toList.map ofCell))
    | none => none
  | .box T x => if opOk x = true then some (if env.box o.dst = true then .boxR T x else .box T x) else none
  | .load t x => prepLoad P t x
  | .store t x y => match szOf P t with
    | some n => if 0 < n ∧ opOk x = true ∧ opOk y = true then some (.store n x y) else none
    | none => none
  | .nilCheck x => if opOk x = true then some (.nilc x) else none
  | .fieldAddr t x i => match P.underlying t with
    | some (.struct fs) => match fs[i]? with
      | some fd => match szOf P fd.type with
        | some n => if n ≠ 0 ∧ opOk x = true then some (.fa fd.offset x) else none
        | none => none
      | none => none
    | _ => none
  | .indexAddr t x i => if opOk x = true ∧ opOk i = true then
      match P.underlying t with
      | some (.array len e) => match szOf P e with
        | some k => some (.iaA k len x i)
        | none => none
      | some (.slice e) => match szOf P e with
        | some k => some (.iaS k x i)
        | none => none
      | _ => none
    else none
  | .field t x i => match P.underlying t with
    | some (.struct fs) => match fs[i]? with
      | some fd => match P.underlying fd.type, szOf P fd.type with
        | some d, some n => if opOk x = true ∧ (d.isRow = true ∨ n = 1) then some (.fld d.isRow fd.offset n x) else none
        | _, _ => none
      | none => none
    | _ => none
  | .index t x i => if opOk x = true ∧ opOk i = true then
      match P.underlying t with
      | some (.array len e) => match P.underlying e, szOf P e with
        | some d, some k => if d.isRow = true ∨ k = 1 then some (.idxA d.isRow k len x i) else none
        | _, _ => none
      | some .string => some (.idxS x i)
      | _ => none
    else none
  | .build t parts => match zOf P t, resParts P t parts.toList with
    | some z, some res => if placesOk P t = true then some (.bld (z.toList.map ofCell) res) else none
    | _, _ => none
  | .buildSlice t n parts => match P.underlying t, inOrder 0 parts.toList with
    | some (.slice e), some xs => match P.info? e with
      | some i => match i.zero with
        | some z => if z.cells.size = i.size ∧ z.cells.toList.all (·.oneCell') = true ∧ 0 < i.size ∧ n * i.size ≤ 2 ^ 24 ∧ xs.length = n then some (if env.mut o.dst = true then .bslM i.size xs else .bsl i.size xs) else none
        | none => none
      | none => none
    | _, _ => none
  | .slice t x lo hi mx => prepSlice P env o.dst t x lo hi mx
  | .binOp op t x y _ => if opOk x = true ∧ opOk y = true then
      match op with
      | .eql => prepEq P false t x y
      | .neq => prepEq P true t x y
      | op => some (.bin op x y)
    else none
  | .unOp op _ x => if opOk x = true then some (.un op x) else none
  | .convert st dt x => match P.underlying st, P.underlying dt with
    | some (.int _), some (.int k) => if opOk x = true then some (.cvt k x) else none
    | some (.slice e), some .string => match P.underlying e with
      | some (.int .u8) => if opOk x = true then some (if env.mutOp x = true then .b2sM x else .b2s x) else none
      | _ => none
    | some .string, some (.slice e) => match P.underlying e with
      | some (.int .u8) => if opOk x = true then some (.s2b x) else none
      | _ => none
    | _, _ => none
  | .makeSlice t x y => match P.underlying t with
    | some (.slice e) => match P.info? e with
      | some i => match i.zero with
        | some z => if z.cells.size = i.size ∧ z.cells.toList.all (·.oneCell') = true ∧ 0 < i.size ∧ opOk x = true ∧ opOk y = true then some (.mks i.size i.bytes (z.cells.toList.map ofCell) x y) else none
        | none => none
      | none => none
    | _ => none
  | .extract x i => if opOk x = true then some (.ext x i) else none
  | .call c => prepCall P env o.dst c
  | _ => none
section
variable {P : Program} {kp : AV → Hp → Prop} {o : Oper} {a : Act} {w : World} {H : PH} {s : Hp} {K : AV → Hp → Prop} {f : Fr}
theorem szOf_some {t : TypeId} {n : Nat} (h : szOf P t = some n) : (P.info? t).map (·.size) = some n := h
theorem row_or_one {d : TypeDesc} {n : Nat} (h : d.isRow = true ∨ n = 1) : d.isRow = false → n = 1 := fun h' => h.resolve_left (by simp [h'])
theorem zOf_some {t : TypeId} {z : Array Value} (h : zOf P t = some z) : ∃ i v, P.info? t = some i ∧ i.zero = some v ∧ v.cells = z ∧ ∀ x ∈ z.toList, x.oneCell' = true := by
  unfold zOf at h
  split at h
  case h_2 => cases h
  rename_i i hi
  split at h
  case h_2 => cases h
  rename_i v hv
  split at h
  case isFalse => cases h
  rename_i hall
  obtain rfl := Option.some.inj h
  exact ⟨i, v, hi, hv, rfl, by simpa only [List.all_eq_true] using hall⟩
theorem built_eq {t : TypeId} {z : Array Value} (hz : zOf P t = some z) (hp : placesOk P t = true) (vs : List (Nat × Value)) : P.built t vs = Instr.fill (placeOf P t) z vs := by
  obtain ⟨i, v, hi, hv, rfl, _⟩ := zOf_some hz
  unfold placesOk at hp
  unfold Program.built placeOf
  cases hu : P.underlying t with
  | none => simp [hu] at hp
  | some d =>
    cases d <;> simp only [hu] at hp <;> first
      | (cases hp; done)
      | skip
    case struct fs =>
      obtain ⟨ps, hps⟩ := Option.isSome_iff_exists.1 hp
      simp [hi, hv, hps]
    case array n e =>
      obtain ⟨ie, hie⟩ := Option.isSome_iff_exists.1 hp
      simp [hi, hv, hie]
theorem resParts_some {t : TypeId} : ∀ {parts : List (Nat × Operand)} {res : List (Nat × Nat × Operand)}, resParts P t parts = some res → parts.length = res.length ∧
    ∀ (j : Nat) (p : Nat × Operand) (q : Nat × Nat × Operand), parts[j]? = some p → res[j]? = some q → placeOf P t p.1 = some (q.1, q.2.1) ∧ p.2 = q.2.2 ∧ opOk p.2 = true ∧ 0 < q.2.1
  | [], res, h => by
    simp only [resParts, Option.some.injEq] at h; subst h
    exact ⟨rfl, fun j p q h => by simp at h⟩
  | p :: parts, res, h => by
    simp only [resParts] at h
    split at h
    case h_2 => cases h
    rename_i q qs hq hqs
    obtain rfl := Option.some.inj h
    obtain ⟨h1, h2⟩ := resParts_some hqs
    refine ⟨by simp [h1], fun j p' q' hp' hq' => ?_⟩
    match j, hp', hq' with
    | 0, hp', hq' =>
      simp only [List.getElem?_cons_zero, Option.some.injEq] at hp' hq'
      subst hp'; subst hq'
      unfold resPart at hq
      split at hq
      case h_2 => cases hq
      rename_i off sz hpl
      split at hq
      case isFalse => cases hq
      rename_i hc
      obtain rfl := Option.some.inj hq
      exact ⟨hpl, rfl, hc.2, hc.1⟩
    | j + 1, hp', hq' => exact h2 j p' q' (by simpa using hp') (by simpa using hq')
theorem inOrder_some : ∀ {i : Nat} {parts : List (Nat × Operand)} {xs : List Operand}, inOrder i parts = some xs → parts = (xs.zipIdx i).map (fun p => (p.2, p.1)) ∧ ∀ x ∈ xs, opOk x = true
  | i, [], xs, h => by
    simp only [inOrder, Option.some.injEq] at h; subst h
    exact ⟨rfl, fun x hx => by simp at hx⟩
  | i, (j, x) :: r, xs, h => by
    simp only [inOrder] at h
    split at h
    case isFalse => cases h
    rename_i hc
    obtain ⟨ys, hys, rfl⟩ := Option.map_eq_some_iff.1 h
    obtain ⟨h1, h2⟩ := inOrder_some hys
    refine ⟨by simp [List.zipIdx_cons, h1, hc.1], fun y hy => ?_⟩
    rcases List.mem_cons.1 hy with rfl | hy
    · exact hc.2
    · exact h2 y hy
theorem toList_one {α : Type} {xs : Array α} {x : α} (h : xs.toList = [x]) : xs = #[x] := Array.toList_inj.1 h
theorem toList_two {α : Type} {xs : Array α} {x y : α} (h : xs.toList = [x, y]) : xs = #[x, y] := Array.toList_inj.1 h
theorem prepSlice_sound {env : Env} {dst : Option Nat} {t : TypeId} {x : Operand} {lo hi mx : Option Operand} {ao : AOp} (ho : o.op = .slice t x lo hi mx) (h : prepSlice P env dst t x lo hi mx = some ao) (hf : FRel H a f) (hh : Holds H s w) (hG : G ⟨P, kp⟩ ao f s K) : GoalW P kp o a w H s K := by
  unfold prepSlice at h
  split at h
  case isFalse => cases h
  rename_i hc
  split at h
  · rename_i e hu
    split at h
    case h_2 => cases h
    rename_i k hk
    obtain rfl := Option.some.inj h
    exact s_slc t x lo hi ho e hu k hk hc.1 hc.2.1 hc.2.2 hf hh hG
  · rename_i e km hu
    split at h
    case h_2 => cases h
    rename_i kh
    split at h
    case isFalse => cases h
    rename_i hin
    obtain rfl := Option.some.inj h
    exact s_slc0 t x kh km ho e hu hin hc.1 hf hh hG
  · rename_i hu
    obtain rfl := Option.some.inj h
    exact s_slcS t x lo hi ho hu hc.1 hc.2.1 hc.2.2 hf hh hG
  · rename_i n e hu
    split at h
    case h_2 => cases h
    rename_i k hk
    split at h
    case isFalse => cases h
    rename_i h0
    obtain rfl := Option.some.inj h
    split at hG
    · exact s_slcR t x lo hi ho n e hu k hk h0 hc.1 hc.2.1 hc.2.2 hf hh hG
    · exact s_slcA t x lo hi ho n e hu k hk h0 _ hc.1 hc.2.1 hc.2.2 hf hh hG
  · cases h
theorem prepEq_sound {neg : Bool} {t yt : TypeId} {x y : Operand} {ao : AOp} (ho : o.op = .binOp (if neg then .neq else .eql) t x y yt) (hx : opOk x = true) (hy : opOk y = true) (h : prepEq P neg t x y = some ao) (hf : FRel H a f) (hh : Holds H s w) (hG : G ⟨P, kp⟩ ao f s K) : GoalW P kp o a w H s K := by
  unfold prepEq at h
  split at h
  · rename_i hu; obtain rfl := Option.some.inj h; exact s_eqb neg t x y yt ho hu hx hy hf hh hG
  · rename_i e hu
    split at h
    · obtain rfl := Option.some.inj h; exact s_eqn neg t x yt ho e hu hx hf hh hG
    · cases h
  · rename_i e hu; obtain rfl := Option.some.inj h; exact s_eqp neg t x y yt ho e hu hx hy hf hh hG
  · obtain rfl := Option.some.inj h; exact s_bin _ t x y yt ho hx hy hf hh hG
  · obtain rfl := Option.some.inj h; exact s_bin _ t x y yt ho hx hy hf hh hG
  · rename_i d _ _ _ _ _ hu
    split at h
    case h_2 => cases h
    rename_i ks hks
    split at h
    case isFalse => cases h
    rename_i hc
    obtain rfl := Option.some.inj h
    exact s_eqv neg t x y yt ho 20 ks hks hc.1 hc.2.1 (by omega) (by simp [hu, hc.2.2.1]) hc.2.2.2 hx hy hf hh hG
  · cases h
theorem prepCall_sound {env : Env} {dst : Option Nat} {c : Call} {ao : AOp} (ho : o.op = .call c) (h : prepCall P env dst c = some ao) (hf : FRel H a f) (hh : Holds H s w) (hG : G ⟨P, kp⟩ ao f s K) : GoalW P kp o a w H s K := by
  obtain ⟨callee, args, argTypes⟩ := c
  unfold prepCall at h
  split at h
  · rename_i g hcal
    simp only at hcal
    subst hcal
    split at h
    case isFalse => cases h
    rename_i hc
    obtain rfl := Option.some.inj h
    obtain ⟨h1, h2⟩ := hc
    unfold callOk at h1
    split at h1
    case h_2 => cases h1
    rename_i fn hfn
    simp only [Bool.and_eq_true, bne_iff_ne, ne_eq] at h1
    exact s_callF g fn args argTypes ho hfn h1.1 h1.2 (by simpa only [List.all_eq_true] using h2) hf hh hG
  · rename_i x t hcal hx ht
    simp only at hcal hx ht
    subst hcal
    obtain rfl := toList_one hx
    obtain rfl := toList_one ht
    split at h
    · rename_i e hu
      split at h
      case isFalse => cases h
      rename_i hc
      obtain rfl := Option.some.inj h
      exact s_len t x ho e hu hc hf hh hG
    · rename_i hu
      split at h
      case isFalse => cases h
      rename_i hc
      obtain rfl := Option.some.inj h
      exact s_lenT t x ho hu hc hf hh hG
    · rename_i n e hu
      obtain rfl := Option.some.inj h
      exact s_lenA t x ho n e hu hh hG
    · cases h
  · rename_i x y t t' hcal hx ht
    simp only at hcal hx ht
    subst hcal
    obtain rfl := toList_two hx
    obtain rfl := toList_two ht
    split at h
    case h_2 => cases h
    rename_i e hu
    split at h
    case h_2 => cases h
    rename_i i hi
    split at h
    case h_2 => cases h
    rename_i z hz
    split at h
    case isFalse => cases h
    rename_i hc
    obtain ⟨rfl, h1, h2, h3, h4⟩ := hc
    split at h
    · split at h
      case isFalse => cases h
      rename_i hz1
      obtain rfl := Option.some.inj h
      exact s_appM x y t t _ hu (.inl ⟨e, rfl⟩) ho e hu i hi z hz h1 (by simpa only [List.all_eq_true] using hz1) h2 h3 h4 hf hh hG
    · obtain rfl := Option.some.inj h
      exact s_app x y t ho e hu i hi z hz h1 h2 h3 h4 hf hh hG
  · rename_i x y hcal hx
    simp only at hcal hx
    subst hcal
    obtain rfl := toList_two hx
    split at h
    case isFalse => cases h
    rename_i hc
    obtain rfl := Option.some.inj h
    exact s_mm true .i64 x y _ ho hc.1 hc.2 hf hh hG
  · rename_i x y hcal hx
    simp only at hcal hx
    subst hcal
    obtain rfl := toList_two hx
    split at h
    case isFalse => cases h
    rename_i hc
    obtain rfl := Option.some.inj h
    exact s_mm false .i64 x y _ ho hc.1 hc.2 hf hh hG
  · rename_i x y t t' hcal hx ht
    simp only at hcal hx ht
    subst hcal
    obtain rfl := toList_two hx
    obtain rfl := toList_two ht
    split at h
    case h_2 => cases h
    rename_i e hu
    split at h
    case h_2 => cases h
    rename_i k hk
    split at h
    case isFalse => cases h
    rename_i hc
    obtain rfl := Option.some.inj h
    exact s_cpy t t' x y ho e hu k hk hc.1 hc.2 hf hh hG
  · cases h
theorem prepOld_sound {env : Env} {ao : AOp} (h : prepOld P env o = some ao) (hf : FRel H a f) (hh : Holds H s w) (hG : G ⟨P, kp⟩ ao f s K) : GoalW P kp o a w H s K := by
  unfold prepOld at h
  split at h
  case h_1 x ho => split at h; (rename_i hx; obtain rfl := Option.some.inj h; exact s_mv x (.inl ho) hx hf hh hG); (cases h)
  case h_2 x ho => split at h; (rename_i hx; obtain rfl := Option.some.inj h; exact s_mv x (.inr ho) hx hf hh hG); (cases h)
  case h_3 c x y ho => split at h; (rename_i hx; obtain rfl := Option.some.inj h; exact s_pick c x y ho hx.1 hx.2.1 hx.2.2 hf hh hG); (cases h)
  case h_4 T ho =>
    split at h
    · rename_i z hz
      obtain rfl := Option.some.inj h
      obtain ⟨i, v, hi, hv, rfl, hone⟩ := zOf_some hz
      exact s_alloc T ho i hi v hv hone hh hG
    · cases h
  case h_5 T x ho =>
    split at h
    · rename_i hx
      obtain rfl := Option.some.inj h
      split at hG
      · exact s_boxR T x ho hx hf hh hG
      · exact s_box T x ho hx hf hh hG
    · cases h
  case h_6 t x ho =>
    unfold prepLoad at h
    split at h
    · rename_i d n hu hn
      split at h
      · rename_i hc; obtain rfl := Option.some.inj h; exact s_load t x ho d hu n hn (row_or_one hc.2) hc.1 hf hh hG
      · cases h
    · cases h
  case h_7 t x y ho =>
    split at h
    · rename_i n hn
      split at h
      · rename_i hc; obtain rfl := Option.some.inj h; exact s_store t x y ho n hn hc.1 hc.2.1 hc.2.2 hf hh hG
      · cases h
    · cases h
  case h_8 x ho => split at h; (rename_i hx; obtain rfl := Option.some.inj h; exact s_nilc x ho hx hf hh hG); (cases h)
  case h_9 t x i ho =>
    split at h
    · rename_i fs hu
      split at h
      · rename_i fd hfd
        split at h
        · rename_i n hn
          split at h
          · rename_i hc; obtain rfl := Option.some.inj h; exact s_fa t x i ho fs hu fd hfd n hn hc.1 hc.2 hf hh hG
          · cases h
        · cases h
      · cases h
    · cases h
  case h_10 t x i ho =>
    split at h
    case isFalse => cases h
    rename_i hc
    split at h
    · rename_i len e hu
      split at h
      · rename_i k hk; obtain rfl := Option.some.inj h; exact s_iaA t x i ho len e hu k hk hc.1 hc.2 hf hh hG
      · cases h
    · rename_i e hu
      split at h
      · rename_i k hk; obtain rfl := Option.some.inj h; exact s_iaS t x i ho e hu k hk hc.1 hc.2 hf hh hG
      · cases h
    · cases h
  case h_11 t x i ho =>
    split at h
    · rename_i fs hu
      split at h
      · rename_i fd hfd
        split at h
        · rename_i d n hd hn
          split at h
          · rename_i hc; obtain rfl := Option.some.inj h; exact s_fld t x i ho fs hu fd hfd d hd n hn (row_or_one hc.2) hc.1 hf hh hG
          · cases h
        · cases h
      · cases h
    · cases h
  case h_12 t x i ho =>
    split at h
    case isFalse => cases h
    rename_i hc
    split at h
    · rename_i len e hu
      split at h
      · rename_i d k hd hk
        split at h
        · rename_i hrow; obtain rfl := Option.some.inj h; exact s_idxA t x i ho len e hu d hd k hk (row_or_one hrow) hc.1 hc.2 hf hh hG
        · cases h
      · cases h
    · rename_i hu; obtain rfl := Option.some.inj h; exact s_idxS t x i ho hu hc.1 hc.2 hf hh hG
    · cases h
  case h_13 t parts ho =>
    split at h
    · rename_i z res hz hres
      split at h
      · rename_i hp
        obtain rfl := Option.some.inj h
        obtain ⟨i, v, hi, hv, rfl, hone⟩ := zOf_some hz
        obtain ⟨r1, r2⟩ := resParts_some hres
        exact s_bld t parts ho (placeOf P t) _ res (built_eq hz hp) hone r1 r2 hf hh hG
      · cases h
    · cases h
  case h_14 t n parts ho =>
    split at h
    · rename_i e xs hu hxs
      split at h
      · rename_i i hi
        split at h
        · rename_i z hz
          split at h
          · rename_i hc
            obtain rfl := Option.some.inj h
            obtain ⟨h1, h2⟩ := inOrder_some hxs
            split at hG
            · exact s_bslM t n parts ho e hu i hi z hz hc.1 (by simpa only [List.all_eq_true] using hc.2.1) hc.2.2.1 hc.2.2.2.1 xs h1 hc.2.2.2.2 h2 hf hh hG
            exact s_bsl t n parts ho e hu i hi z hz hc.1 (by simpa only [List.all_eq_true] using hc.2.1) hc.2.2.1 hc.2.2.2.1 xs h1 hc.2.2.2.2 h2 hf hh hG
          · cases h
        · cases h
      · cases h
    · cases h
  case h_15 t x lo hi mx ho => exact prepSlice_sound ho h hf hh hG
  case h_16 op t x y yt ho =>
    split at h
    case isFalse => cases h
    rename_i hc
    split at h
    · exact prepEq_sound (neg := false) ho hc.1 hc.2 h hf hh hG
    · exact prepEq_sound (neg := true) ho hc.1 hc.2 h hf hh hG
    · obtain rfl := Option.some.inj h; exact s_bin _ t x y yt ho hc.1 hc.2 hf hh hG
  case h_17 op t x ho => split at h; (rename_i hx; obtain rfl := Option.some.inj h; exact s_un op t x ho hx hf hh hG); (cases h)
  case h_18 st dt x ho =>
    split at h
    · rename_i k' k hs hd
      split at h
      · rename_i hx; obtain rfl := Option.some.inj h; exact s_cvt st dt x ho k k' hs hd hx hf hh hG
      · cases h
    · rename_i e hs hd
      split at h
      · rename_i he8
        split at h
        · rename_i hx
          obtain rfl := Option.some.inj h
          split at hG
          · exact s_b2sM st dt x ho e hs he8 hd hx hf hh hG
          · exact s_b2s st dt x ho e hs he8 hd hx hf hh hG
        · cases h
      · cases h
    · rename_i e hs hd
      split at h
      · rename_i he8
        split at h
        · rename_i hx; obtain rfl := Option.some.inj h; exact s_s2b st dt x ho e hs hd he8 hx hf hh hG
        · cases h
      · cases h
    · cases h
  case h_19 t x y ho =>
    split at h
    case h_2 => cases h
    rename_i e hu
    split at h
    case h_2 => cases h
    rename_i i hi
    split at h
    case h_2 => cases h
    rename_i z hz
    split at h
    case isFalse => cases h
    rename_i hc
    obtain rfl := Option.some.inj h
    exact s_mks t x y ho e hu i hi z hz hc.1 (by simpa only [List.all_eq_true] using hc.2.1) hc.2.2.1 hc.2.2.2.1 hc.2.2.2.2 hf hh hG
  case h_20 x i ho => split at h; (rename_i hx; obtain rfl := Option.some.inj h; exact s_ext x i ho hx hf hh hG); (cases h)
  case h_21 c ho => exact prepCall_sound ho h hf hh hG
  · cases h
end
def noEsc (P : Program) (g : FuncId) : Bool :=
  match P.funcs[g]? with
  | some fn => fn.name == "internal/abi.NoEscape" && fn.origin == "" && fn.body.isNone
  | none => false
def isNilPtr : Operand → Bool
  | .const (.pointer none) => true
  | _ => false
def srcTy (P : Program) (t : TypeId) : Bool :=
  match P.underlying t with
  | some (.slice _) => true
  | some .string => true
  | _ => false
def prepXApp (P : Program) (env : Env) (dst : Option Nat) (x y : Operand) (t xt : TypeId) : Option AOp :=
  match P.underlying t with
  | some (.slice e) => match P.info? e with
    | some i => match i.zero with
      | some z => if srcTy P xt = true ∧ z.cells.size = i.size ∧ z.cells.toList.all (·.oneCell') = true ∧ 0 < i.size ∧ opOk x = true ∧ opOk y = true then
          (if env.ty = true then (if i.size = 1 ∧ i.bytes ≤ 1 then some (.appT e x y) else none) else if t ≠ xt ∧ env.mut dst = true then some (.appM i.size i.bytes x y) else none) else none
      | none => none
    | none => none
  | _ => none
def prepXCall (P : Program) (env : Env) (dst : Option Nat) (c : Call) : Option AOp :=
  match c.callee, c.args.toList, c.argTypes.toList with
  | .value (.func g), [x], _ => if noEsc P g = true ∧ opOk x = true then some (.mv x) else none
  | .value (.tmp u), args, _ => if args.all opOk = true then some (.callV (.tmp u) args) else none
  | .builtin .unsafeSliceData, [x], [_] => if opOk x = true then some (.sdat x) else none
  | .builtin .unsafeString, [x, y], [pt, _] => match P.underlying pt with
    | some (.pointer e) => if P.cellsOf e = 1 ∧ opOk x = true ∧ opOk y = true then some (.ustr e x y) else none
    | _ => none
  | .builtin .append, [x, y], [t, xt] => prepXApp P env dst x y t xt
  | _, _, _ => none
def prepXEq (P : Program) (neg : Bool) (t : TypeId) (x y : Operand) : Option AOp :=
  match P.underlying t with
  | some (.interface _) => match y with
    | .const .nilIface => if opOk x = true then some (.eqi neg x) else none
    | _ => none
  | some (.func _ _ _) => match y with
    | .const .nilFunc => if opOk x = true then some (.eqfn neg x) else none
    | _ => none
  | some (.pointer e) => match P.info? e with
    | some i => if isNilPtr y = false ∧ i.size ≠ 0 ∧ opOk x = true ∧ opOk y = true then some (.eqpp neg x y) else none
    | none => none
  | _ => none
def isIfaceD : TypeDesc → Bool
  | .interface _ => true
  | _ => false
theorem isIfaceD_no {d : TypeDesc} (h : isIfaceD d = false) : ∀ m, d ≠ .interface m := fun m hm => by subst hm; cases h
def prepXCvt (P : Program) (env : Env) (dst : Option Nat) (st dt : TypeId) (x : Operand) : Option AOp :=
  match P.underlying st, P.underlying dt with
  | some .string, some (.slice e) => match P.underlying e with
    | some (.int .u8) => if env.mut dst = true ∧ opOk x = true then some (.s2bM x) else none
    | _ => none
  | some (.pointer e), some .unsafePointer => match P.info? e with
    | some j => if j.size ≠ 0 ∧ opOk x = true then some (.toU x) else none
    | none => none
  | some .unsafePointer, some (.pointer u) => match P.info? u with
    | some _ => if liesAt P P.depth u (P.cellsOf u / P.cellsOf u) 0 u 1 = true ∧ opOk x = true then some (.frU u (P.cellsOf u) x) else none
    | none => none
  | _, _ => none
def keyRowB (P : Program) (kt : TypeId) (ks : List CK) : Bool :=
  decide (P.cellsOf kt = ks.length) && (P.info? kt).isSome && (match P.underlying kt with | some (.array _ _) | some (.struct _) => true | _ => false)
theorem keyRow_of {P : Program} {kt : TypeId} {ks : List CK} (h : flatK P 20 kt = some ks) (hb : keyRowB P kt ks = true) : KeyRow P kt (runsOf ks) := by
  simp only [keyRowB, Bool.and_eq_true, decide_eq_true_eq] at hb
  obtain ⟨⟨h1, h2⟩, h3⟩ := hb
  refine ⟨⟨20, by omega, by rw [expand_runs]; exact h⟩, by rw [expand_runs]; exact h1, h2, ?_⟩
  cases hu : P.underlying kt with
  | none => rw [hu] at h3; cases h3
  | some d =>
    rw [hu] at h3
    refine ⟨d, rfl, ?_, h3⟩
    cases d <;> first | rfl | cases h3
def prepMap (P : Program) (op : Op) : Option AOp :=
  match op with
  | .makeMap _ none => some .mkM
  | .lookup mt x k ok => match P.underlying mt with
    | some (.map kt et) => match flatK P 20 kt, P.info? et with
      | some ks, some i => match i.zero with
        | some z => if keyRowB P kt ks = true ∧ constOk z = true ∧ opOk x = true ∧ opOk k = true then some (.lkp ok (runsOf ks) (ofConst z) x k) else none
        | none => none
      | _, _ => none
    | _ => none
  | .mapUpdate mt x k v | .insert mt x k v => match P.underlying mt with
    | some (.map kt _) => match flatK P 20 kt with
      | some ks => if keyRowB P kt ks = true ∧ opOk x = true ∧ opOk k = true ∧ opOk v = true then some (.mup (runsOf ks) x k v) else none
      | none => none
    | _ => none
  | .mapEntry mt x k => match P.underlying mt with
    | some (.map kt et) => match flatK P 20 kt, P.info? et with
      | some ks, some i => match i.zero with
        | some z => if keyRowB P kt ks = true ∧ constOk z = true ∧ opOk x = true ∧ opOk k = true then some (.ment (runsOf ks) (ofConst z) x k) else none
        | none => none
      | _, _ => none
    | _ => none
  | .entryStore _ x i v => if opOk x = true ∧ opOk i = true ∧ opOk v = true then some (.mst x i v) else none
  | _ => none
def prepX (P : Program) (env : Env) (o : Oper) : Option AOp :=
  match o.op with
  | .alloc T => if env.ty = true then (match zOf P T with
    | some z => some (.allocT T (z.toList.map ofCell))
    | none => none) else none
  | .store t x y => if env.ty = true ∨ env.sx = true then (match szOf P t with
    | some n => if 0 < n ∧ opOk x = true ∧ opOk y = true then some (.storeX n x y) else none
    | none => none) else none
  | .makeFunc (.func f) first cap => if first.toList.all opOk = true ∧ cap.toList.all opOk = true then some (.clo f first.toList cap.toList) else none
  | .makeInterface t x => match P.underlying t with
    | some d => if isIfaceD d = false ∧ opOk x = true then some (.mki t x) else none
    | none => none
  | .typeAssert x _ t ok => match P.underlying t, P.info? t with
    | some d, some i => match i.zero with
      | some z => if isIfaceD d = false ∧ constOk z = true ∧ opOk x = true then some (.asrt t ok (ofConst z) x) else none
      | none => none
    | _, _ => none
  | .panic x => if opOk x = true then some (.pan x) else none
  | .range t x => match P.underlying t with
    | some .string => if opOk x = true then some (.rngS x) else none
    | _ => none
  | .next x true => if opOk x = true then some (.nxtS x) else none
  | .convert st dt x => prepXCvt P env o.dst st dt x
  | .binOp .eql t x y _ => prepXEq P false t x y
  | .binOp .neq t x y _ => prepXEq P true t x y
  | .call c => prepXCall P env o.dst c
  | _ => none
def prepOp (P : Program) (env : Env) (o : Oper) : Option AOp :=
  match prepMap P o.op with
  | some a => some a
  | none => match prepX P env o with
  | some a => some a
  | none => prepOld P env o
theorem noEsc_next : Extern.allNextRows.lookup "internal/abi.NoEscape" = none := by kernel_rfl
theorem none_next : Extern.allNextRows.lookup "" = none := by kernel_rfl
theorem noEsc_gen : Extern.allGenericRows.lookup "internal/abi.NoEscape" = none := by kernel_rfl
theorem noEsc_typ : Extern.allTypedRows.lookup "internal/abi.NoEscape" = none := by kernel_rfl
theorem noEsc_row : Extern.allRows.lookup "internal/abi.NoEscape" = some Extern.AbiNoEscape.same := by kernel_rfl
section
variable {P : Program} {kp : AV → Hp → Prop} {o : Oper} {a : Act} {w : World} {H : PH} {s : Hp} {K : AV → Hp → Prop} {f : Fr}
theorem s_noesc (g : FuncId) (x : Operand) (ats : Array TypeId) (ho : o.op = .call { callee := .value (.func g), args := #[x], argTypes := ats }) (hg : noEsc P g = true) (hx : opOk x = true) (hf : FRel H a f) (hh : Holds H s w) (hG : G ⟨P, kp⟩ (.mv x) f s K) : GoalW P kp o a w H s K := by
  unfold noEsc at hg
  split at hg
  case h_2 => cases hg
  rename_i fn hfn
  simp only [Bool.and_eq_true, beq_iff_eq] at hg
  obtain ⟨⟨h1, h2⟩, h3⟩ := hg
  have hn : Extern.findNext fn = none := by simp [Extern.findNext, h1, h2, noEsc_next, none_next]
  have he : Extern.find fn = some Extern.AbiNoEscape.same := by simp [Extern.find, h1, noEsc_gen, noEsc_typ, noEsc_row]
  have hr := run_callFunc_extern (P := P) (f := g) (fn := fn) (e := Extern.AbiNoEscape.same) hfn (by rw [h1]; decide) h3 hn he #[a.eval x] w
  refine .same hh (v := a.eval x) ?_ (hf.ev x hx) hG
  have hgf : a.eval (.func g) = .func (.func g) #[] #[] := rfl
  have e2 : (Extern.AbiNoEscape.same #[a.eval x]).run P w = .ok (a.eval x) w := rfl
  simp only [e2, Result.andThen_ok] at hr
  simp [execOp, ho, resolve, hgf, Deferred.ofValue, invoke, hr]
theorem prepXEq_sound {neg : Bool} {t yt : TypeId} {x y : Operand} {ao : AOp} (ho : o.op = .binOp (if neg then .neq else .eql) t x y yt) (h : prepXEq P neg t x y = some ao) (hf : FRel H a f) (hh : Holds H s w) (hG : G ⟨P, kp⟩ ao f s K) : GoalW P kp o a w H s K := by
  unfold prepXEq at h
  split at h
  · rename_i ms hu
    split at h
    case h_2 => cases h
    split at h
    case isFalse => cases h
    rename_i hx
    obtain rfl := Option.some.inj h
    exact s_eqi neg t x yt ho ms hu hx hf hh hG
  · rename_i a1 a2 a3 hu
    split at h
    case h_2 => cases h
    split at h
    case isFalse => cases h
    rename_i hx
    obtain rfl := Option.some.inj h
    exact s_eqfn neg t x yt ho a1 a2 a3 hu hx hf hh hG
  · rename_i e hu
    split at h
    case h_2 => cases h
    rename_i i hi
    split at h
    case isFalse => cases h
    rename_i hc
    obtain rfl := Option.some.inj h
    exact s_eqpp neg t x y yt ho e hu i hi hc.2.1 hc.2.2.1 hc.2.2.2 hf hh hG
  · cases h
theorem prepXCvt_sound {env : Env} {dst : Option Nat} {st dt : TypeId} {x : Operand} {ao : AOp} (ho : o.op = .convert st dt x) (h : prepXCvt P env dst st dt x = some ao) (hf : FRel H a f) (hh : Holds H s w) (hG : G ⟨P, kp⟩ ao f s K) : GoalW P kp o a w H s K := by
  unfold prepXCvt at h
  split at h
  · rename_i e hs hd
    split at h
    case h_2 => cases h
    rename_i he8
    split at h
    case isFalse => cases h
    rename_i hc
    obtain rfl := Option.some.inj h
    exact s_s2bM st dt x ho e hs hd he8 hc.2 hf hh hG
  · rename_i e hs hd
    split at h
    case h_2 => cases h
    rename_i j hj
    split at h
    case isFalse => cases h
    rename_i hc
    obtain rfl := Option.some.inj h
    exact s_toU st dt x ho e hs hd j hj hc.1 hc.2 hf hh hG
  · rename_i u hs hd
    split at h
    case h_2 => cases h
    rename_i j hj
    split at h
    case isFalse => cases h
    rename_i hc
    obtain rfl := Option.some.inj h
    exact s_frU st dt x ho u hs hd j hj _ hc.1 hc.2 hf hh hG
  · cases h
theorem prepXApp_sound {env : Env} {dst : Option Nat} {t xt : TypeId} {x y : Operand} {ao : AOp} (ho : o.op = .call { callee := .builtin .append, args := #[x, y], argTypes := #[t, xt] }) (h : prepXApp P env dst x y t xt = some ao) (hf : FRel H a f) (hh : Holds H s w) (hG : G ⟨P, kp⟩ ao f s K) : GoalW P kp o a w H s K := by
  unfold prepXApp at h
  split at h
  case h_2 => cases h
  rename_i e hu
  split at h
  case h_2 => cases h
  rename_i i hi
  split at h
  case h_2 => cases h
  rename_i z hz
  split at h
  case isFalse => cases h
  rename_i hc
  obtain ⟨hsrc, h1, h2, h3, h4, h5⟩ := hc
  obtain ⟨d, hxt, hd⟩ : ∃ d, P.underlying xt = some d ∧ ((∃ e', d = .slice e') ∨ d = .string) := by
    unfold srcTy at hsrc
    split at hsrc
    · rename_i e' he'; exact ⟨_, he', .inl ⟨e', rfl⟩⟩
    · rename_i he'; exact ⟨_, he', .inr rfl⟩
    · cases hsrc
  split at h
  · split at h
    case isFalse => cases h
    rename_i hk
    obtain rfl := Option.some.inj h
    exact s_appT x y t xt d hxt hd ho e hu i hi z hz h1 (by simpa only [List.all_eq_true] using h2) h3 h4 h5 hf hh hk.1 hk.2 hG
  · split at h
    case isFalse => cases h
    obtain rfl := Option.some.inj h
    exact s_appM x y t xt d hxt hd ho e hu i hi z hz h1 (by simpa only [List.all_eq_true] using h2) h3 h4 h5 hf hh hG
theorem prepXCall_sound {env : Env} {dst : Option Nat} {c : Call} {ao : AOp} (ho : o.op = .call c) (h : prepXCall P env dst c = some ao) (hf : FRel H a f) (hh : Holds H s w) (hG : G ⟨P, kp⟩ ao f s K) : GoalW P kp o a w H s K := by
  obtain ⟨callee, args, argTypes⟩ := c
  unfold prepXCall at h
  split at h
  · rename_i g x hcal hx
    simp only at hcal hx
    subst hcal
    obtain rfl := toList_one hx
    split at h
    case isFalse => cases h
    rename_i hc
    obtain rfl := Option.some.inj h
    exact s_noesc g x argTypes ho hc.1 hc.2 hf hh hG
  · rename_i u hcal
    simp only at hcal
    subst hcal
    split at h
    case isFalse => cases h
    rename_i hc
    obtain rfl := Option.some.inj h
    exact s_callV (.tmp u) args argTypes ho rfl (by simpa only [List.all_eq_true] using hc) hf hh hG
  · rename_i x t hcal hx ht
    simp only at hcal hx ht
    subst hcal
    obtain rfl := toList_one hx
    obtain rfl := toList_one ht
    split at h
    case isFalse => cases h
    rename_i hc
    obtain rfl := Option.some.inj h
    exact s_sdat t x ho hc hf hh hG
  · rename_i x y pt it hcal hx ht
    simp only at hcal hx ht
    subst hcal
    obtain rfl := toList_two hx
    obtain rfl := toList_two ht
    split at h
    case h_2 => cases h
    rename_i e hp
    split at h
    case isFalse => cases h
    rename_i hc
    obtain rfl := Option.some.inj h
    exact s_ustr pt it x y ho e hp hc.1 hc.2.1 hc.2.2 hf hh hG
  · rename_i x y t xt hcal hx ht
    simp only at hcal hx ht
    subst hcal
    obtain rfl := toList_two hx
    obtain rfl := toList_two ht
    exact prepXApp_sound ho h hf hh hG
  · cases h
theorem prepX_sound {env : Env} {ao : AOp} (h : prepX P env o = some ao) (hf : FRel H a f) (hh : Holds H s w) (hG : G ⟨P, kp⟩ ao f s K) : GoalW P kp o a w H s K := by
  unfold prepX at h
  split at h
  · rename_i T ho
    split at h
    case isFalse => cases h
    split at h
    case h_2 => cases h
    rename_i z hz
    obtain rfl := Option.some.inj h
    obtain ⟨i, v, hi, hv, rfl, hone⟩ := zOf_some hz
    exact s_allocT T ho i hi v hv hone hh hG
  · rename_i t x y ho
    split at h
    case isFalse => cases h
    split at h
    case h_2 => cases h
    rename_i n hn
    split at h
    case isFalse => cases h
    rename_i hc
    obtain rfl := Option.some.inj h
    exact s_storeX t x y ho n (szOf_some hn) hc.1 hc.2.1 hc.2.2 hf hh hG
  · rename_i g first cap ho
    split at h
    case isFalse => cases h
    rename_i hc
    obtain rfl := Option.some.inj h
    exact s_clo g first cap ho (by simpa only [List.all_eq_true] using hc.1) (by simpa only [List.all_eq_true] using hc.2) hf hh hG
  · rename_i t x ho
    split at h
    case h_2 => cases h
    rename_i d hu
    split at h
    case isFalse => cases h
    rename_i hc
    obtain rfl := Option.some.inj h
    exact s_mki t x ho d hu (isIfaceD_no hc.1) hc.2 hf hh hG
  · rename_i x t0 t ok ho
    split at h
    case h_2 => cases h
    rename_i d i hu hi
    split at h
    case h_2 => cases h
    rename_i z hz
    split at h
    case isFalse => cases h
    rename_i hc
    obtain rfl := Option.some.inj h
    exact s_asrt x t0 t ok ho d hu (isIfaceD_no hc.1) i hi z hz hc.2.1 hc.2.2 hf hh hG
  · rename_i x ho
    split at h
    case isFalse => cases h
    rename_i hc
    obtain rfl := Option.some.inj h
    exact s_pan x ho hc hf hh hG
  · rename_i t x ho
    split at h
    case h_2 => cases h
    rename_i hu
    split at h
    case isFalse => cases h
    rename_i hc
    obtain rfl := Option.some.inj h
    exact s_rngS t x ho hu hc hf hh hG
  · rename_i x ho
    split at h
    case isFalse => cases h
    rename_i hc
    obtain rfl := Option.some.inj h
    exact s_nxtS x ho hc hf hh hG
  · rename_i st dt x ho; exact prepXCvt_sound ho h hf hh hG
  · rename_i t x y yt ho; exact prepXEq_sound (neg := false) ho h hf hh hG
  · rename_i t x y yt ho; exact prepXEq_sound (neg := true) ho h hf hh hG
  · rename_i c ho; exact prepXCall_sound ho h hf hh hG
  · cases h
theorem prepMap_sound {ao : AOp} (h : prepMap P o.op = some ao) (hf : FRel H a f) (hh : Holds H s w) (hG : G ⟨P, kp⟩ ao f s K) : GoalW P kp o a w H s K := by
  have upd : ∀ mt x k v, (o.op = .mapUpdate mt x k v ∨ o.op = .insert mt x k v) → (match P.underlying mt with
    | some (.map kt _) => match flatK P 20 kt with
      | some ks => if keyRowB P kt ks = true ∧ opOk x = true ∧ opOk k = true ∧ opOk v = true then some (.mup (runsOf ks) x k v) else none
      | none => none
    | _ => none) = some ao → GoalW P kp o a w H s K := by
    intro mt x k v ho h
    split at h
    case h_2 => cases h
    rename_i kt et hm
    split at h
    case h_2 => cases h
    rename_i ks hks
    split at h
    case isFalse => cases h
    rename_i hc
    obtain rfl := Option.some.inj h
    exact s_mup mt kt et x k v ho hm (keyRow_of hks hc.1) hc.2.1 hc.2.2.1 hc.2.2.2 hf hh hG
  generalize hop : o.op = op at h
  unfold prepMap at h
  split at h
  · obtain rfl := Option.some.inj h
    exact s_mkM _ hop hh hG
  · split at h
    case h_2 => cases h
    rename_i kt et hm
    split at h
    case h_2 => cases h
    rename_i ks i hks hi
    split at h
    case h_2 => cases h
    rename_i z hz
    split at h
    case isFalse => cases h
    rename_i hc
    obtain rfl := Option.some.inj h
    exact s_lkp _ kt et _ _ _ hop hm (keyRow_of hks hc.1) hi hz (RV.ofConst H z hc.2.1) hc.2.2.1 hc.2.2.2 hf hh hG
  · exact upd _ _ _ _ (.inl hop) h
  · exact upd _ _ _ _ (.inr hop) h
  · split at h
    case h_2 => cases h
    rename_i kt et hm
    split at h
    case h_2 => cases h
    rename_i ks i hks hi
    split at h
    case h_2 => cases h
    rename_i z hz
    split at h
    case isFalse => cases h
    rename_i hc
    obtain rfl := Option.some.inj h
    exact s_ment _ kt et _ _ hop hm (keyRow_of hks hc.1) hi hz (RV.ofConst H z hc.2.1) hc.2.2.1 hc.2.2.2 hf hh hG
  · split at h
    case isFalse => cases h
    rename_i hc
    obtain rfl := Option.some.inj h
    exact s_mst _ _ _ _ hop hc.1 hc.2.1 hc.2.2 hf hh hG
  · cases h
theorem prepOp_sound {env : Env} {ao : AOp} (h : prepOp P env o = some ao) (hf : FRel H a f) (hh : Holds H s w) (hG : G ⟨P, kp⟩ ao f s K) : GoalW P kp o a w H s K := by
  unfold prepOp at h
  split at h
  · rename_i a' ha; obtain rfl := Option.some.inj h; exact prepMap_sound ha hf hh hG
  · split at h
    · rename_i a' ha; obtain rfl := Option.some.inj h; exact prepX_sound ha hf hh hG
    · exact prepOld_sound h hf hh hG
end
end Go.Av
namespace Go.Av
open Go
structure AOper where
  dst : Option Nat
  op : AOp
  guard : Option (Nat × Bool)
def E (P : Ctx) (x : AOper) (f : Fr) (s : Hp) (K : AV → Hp → Prop) : Prop :=
  match x.guard with
  | none => G P x.op f s K
  | some (g, want) => match f g with
    | .v (.bool b) => if b = want then G P x.op f s K else K (.tup []) s
    | .tup [] => K (.tup []) s
    | _ => False
def T (P : Ctx) (x : AOper) (K : Fr → Hp → Prop) (f : Fr) (s : Hp) : Prop := E P x f s fun r s' => K (putF f x.dst r) s'
def runL (P : Ctx) : List AOper → (Fr → Hp → Prop) → Fr → Hp → Prop
  | [], K => K
  | x :: r, K => T P x (runL P r K)
theorem E_mono {P : Ctx} {x : AOper} {f : Fr} {s : Hp} {K K' : AV → Hp → Prop} (hk : ∀ r s', K r s' → K' r s') (h : E P x f s K) : E P x f s K' := by
  unfold E at *
  cases hg : x.guard with
  | none => rw [hg] at h; exact G_mono hk h
  | some gw =>
    obtain ⟨g, want⟩ := gw
    rw [hg] at h
    simp only at h ⊢
    split at h
    · split at h
      · next hb => rw [if_pos hb]; exact G_mono hk h
      · next hb => rw [if_neg hb]; exact hk _ _ h
    · exact hk _ _ h
    · exact h.elim
theorem T_mono {P : Ctx} {x : AOper} {f : Fr} {s : Hp} {K K' : Fr → Hp → Prop} (hk : ∀ f s', K f s' → K' f s') (h : T P x K f s) : T P x K' f s := E_mono (fun _ _ h => hk _ _ h) h
def tmpsOf (xs : List Operand) : List Nat := xs.filterMap fun | .tmp t => some t | _ => none
def AOp.operands : AOp → List Operand
  | .mv x | .s2bM x | .mki _ x | .asrt _ _ _ x | .eqi _ x | .eqfn _ x | .pan x | .rngS x | .nxtS x | .toU x | .frU _ _ x | .sdat x | .box _ x | .boxR _ x | .b2s x | .b2sM x | .s2b x | .eqn _ x | .load _ _ x | .nilc x | .fa _ x | .fld _ _ _ x | .slc0 x | .len x | .lenT x | .un _ x | .cvt _ x | .ext x _ => [x]
  | .pick c a b => [c, a, b]
  | .alloc _ _ | .allocT _ _ | .mkM | .lenA _ => []
  | .lkp _ _ _ x k | .ment _ _ x k => [x, k]
  | .mup _ x k v | .mst x k v => [x, k, v]
  | .clo _ first cap => first ++ cap
  | .callV x args => x :: args
  | .store _ x y | .storeX _ x y | .eqpp _ x y | .appT _ x y | .ustr _ x y | .iaA _ _ x y | .iaS _ x y | .idxA _ _ _ x y | .idxS x y | .bin _ x y | .eqv _ _ x y | .eqb _ x y | .eqp _ x y | .app _ _ x y | .appM _ _ x y | .mm _ _ x y | .mks _ _ _ x y | .cpy _ x y => [x, y]
  | .bld _ ps => ps.map fun p => p.2.2
  | .bsl _ xs => xs
  | .bslM _ xs => xs
  | .slc _ x lo hi | .slcA _ _ x lo hi _ | .slcR _ _ x lo hi | .slcS x lo hi => x :: (lo.toList ++ hi.toList)
  | .callF _ args => args
def AOper.reads (x : AOper) : List Nat := tmpsOf x.op.operands ++ (match x.guard with | some (g, _) => [g] | none => [])
theorem ev_congr {f f' : Fr} {xs : List Operand} (h : ∀ t ∈ tmpsOf xs, f t = f' t) {x : Operand} (hx : x ∈ xs) : ev f x = ev f' x := by
  cases x <;> first
    | rfl
    | exact h _ (List.mem_filterMap.2 ⟨_, hx, rfl⟩)
theorem fillG_congr {f f' : Fr} {Kc : List AV → Prop} : ∀ (ps : List (Nat × Nat × Operand)) (cells : List AV), (∀ p ∈ ps, ev f p.2.2 = ev f' p.2.2) → (fillG f cells ps Kc ↔ fillG f' cells ps Kc)
  | [], _, _ => Iff.rfl
  | (off, sz, x) :: r, cells, h => by
    have hx : ev f x = ev f' x := h _ (List.mem_cons_self)
    simp only [fillG, hx]
    rw [fillG_congr r _ (fun p hp => h p (List.mem_cons_of_mem _ hp))]
theorem bnd_congr {f f' : Fr} {x : Option Operand} (h : ∀ y ∈ x.toList, ev f y = ev f' y) (d : Nat) : bnd f x d = bnd f' x d := by
  cases x with
  | none => rfl
  | some y => simp only [bnd, h y (by simp)]
theorem G_congr {P : Ctx} {op : AOp} {f f' : Fr} (h : ∀ t ∈ tmpsOf op.operands, f t = f' t) (s : Hp) (K : AV → Hp → Prop) : G P op f s K ↔ G P op f' s K := by
  have e : ∀ x ∈ op.operands, ev f x = ev f' x := fun x hx => ev_congr h hx
  cases op <;> simp only [AOp.operands, List.mem_cons, List.not_mem_nil, or_false, forall_eq_or_imp, forall_eq, List.mem_append] at e <;> simp only [G]
  case bld zero ps => exact fillG_congr ps zero (fun p hp => e _ (List.mem_map.2 ⟨p, hp, rfl⟩))
  case bsl k xs => rw [List.map_congr_left e]
  case bslM k xs => rw [List.map_congr_left e]
  case callF fn args => rw [List.map_congr_left e]
  case callV x args => rw [e.1, List.map_congr_left e.2]
  case clo fn first cap => rw [List.map_congr_left (fun y hy => e y (.inl hy)), List.map_congr_left (fun y hy => e y (.inr hy))]
  case slc k x lo hi => simp only [e.1, bnd_congr (f := f) (f' := f') (x := lo) (fun y hy => e.2 y (.inl hy)), bnd_congr (f := f) (f' := f') (x := hi) (fun y hy => e.2 y (.inr hy))]
  case slcA k n x lo hi ro => simp only [e.1, bnd_congr (f := f) (f' := f') (x := lo) (fun y hy => e.2 y (.inl hy)), bnd_congr (f := f) (f' := f') (x := hi) (fun y hy => e.2 y (.inr hy))]
  case slcR k n x lo hi => simp only [e.1, bnd_congr (f := f) (f' := f') (x := lo) (fun y hy => e.2 y (.inl hy)), bnd_congr (f := f) (f' := f') (x := hi) (fun y hy => e.2 y (.inr hy))]
  case slcS x lo hi => simp only [e.1, bnd_congr (f := f) (f' := f') (x := lo) (fun y hy => e.2 y (.inl hy)), bnd_congr (f := f) (f' := f') (x := hi) (fun y hy => e.2 y (.inr hy))]
  all_goals first
    | simp only [e]
    | simp only [e.1, e.2]
    | simp only [e.1, e.2.1, e.2.2]
    | rfl
theorem E_congr {P : Ctx} {x : AOper} {f f' : Fr} (h : ∀ t ∈ x.reads, f t = f' t) (s : Hp) (K : AV → Hp → Prop) : E P x f s K ↔ E P x f' s K := by
  have h1 : ∀ t ∈ tmpsOf x.op.operands, f t = f' t := fun t ht => h t (List.mem_append_left _ ht)
  unfold E
  cases hg : x.guard with
  | none => exact G_congr h1 s K
  | some gw =>
    obtain ⟨g, want⟩ := gw
    have h2 : f g = f' g := h g (List.mem_append_right _ (by simp [hg]))
    simp only [h2]
    split
    · split
      · exact G_congr h1 s K
      · exact Iff.rfl
    · exact Iff.rfl
    · exact Iff.rfl
theorem putF_same (f : Fr) (d : Nat) (r : AV) : (putF f (some d) r) d = r := by simp [putF, upd]
theorem putF_ne (f : Fr) (d : Option Nat) (r : AV) (t : Nat) (h : d ≠ some t) : (putF f d r) t = f t := by
  cases d with
  | none => rfl
  | some d => simp [putF, upd, Ne.symm (fun e => h (by rw [e]) : d ≠ t)]
theorem putF_comm (f : Fr) (d e : Option Nat) (r u : AV) (h : ∀ t, d = some t → e ≠ some t) : putF (putF f d r) e u = putF (putF f e u) d r := by
  cases d with
  | none => rfl
  | some d =>
    cases e with
    | none => rfl
    | some e =>
      have hne : d ≠ e := fun he => h d rfl (by rw [he])
      funext t
      simp only [putF, upd]
      by_cases h1 : t = e <;> by_cases h2 : t = d <;> simp_all
theorem E_put {P : Ctx} {x : AOper} (d : Option Nat) (hd : ∀ t, d = some t → t ∉ x.reads) (f : Fr) (r : AV) (s : Hp) (K : AV → Hp → Prop) : E P x (putF f d r) s K ↔ E P x f s K :=
  E_congr (fun t ht => putF_ne f d r t (fun e => hd t e ht)) s K
theorem Hp.set_set_comm (s : Hp) {l l' : Nat} (h : l ≠ l') (o o' : Ob) : (s.set l o).set l' o' = (s.set l' o').set l o := by
  funext x
  simp only [Hp.set]
  by_cases h1 : x = l' <;> by_cases h2 : x = l <;> simp_all
theorem Hp.del_set_comm (s : Hp) {l l' : Nat} (h : l ≠ l') (o : Ob) : (s.set l o).del l' = (s.del l').set l o := by
  funext x
  simp only [Hp.set, Hp.del]
  by_cases h1 : x = l' <;> by_cases h2 : x = l <;> simp_all
theorem Hp.set_join (s : Hp) (l : Nat) (o : Ob) (h : s l = none) : s.join (Hp.emp.set l o) = s.set l o := by
  funext x
  simp only [Hp.join, Hp.set, Hp.emp]
  by_cases hx : x = l
  · subst hx; simp [h]
  · simp [hx]
theorem disj_single (s : Hp) (l : Nat) (o : Ob) : s.disj (Hp.emp.set l o) ↔ s l = none := by
  constructor
  · intro h
    rcases h l with h | h
    · exact h
    · simp [Hp.set] at h
  · intro h x
    by_cases hx : x = l
    · subst hx; exact .inl h
    · right; simp [Hp.set, hx, Hp.emp]
def Framed (l : Nat) (ob : Ob) (R : AV → Hp → Prop) : AV → Hp → Prop := fun r u => ∃ s', R r s' ∧ s' l = none ∧ u = s'.set l ob
theorem read_set (s : Hp) {l l' : Nat} (ob : Ob) (h : s l = none) {cs : List AV} (hr : s.read l' = some cs) : (s.set l ob).read l' = some cs := by
  have hne : l' ≠ l := by rintro rfl; simp [Hp.read, h] at hr
  simpa [Hp.read, Hp.set_ne _ _ hne] using hr
theorem srcF_set (s : Hp) {l : Nat} (ob : Ob) (h : s l = none) {k : Nat} {y : AV} {r : Nat × List AV} (hr : srcF s k y = some r) : srcF (s.set l ob) k y = some r := by
  unfold srcF at hr ⊢
  split
  · exact hr
  · simp only at hr
    split at hr
    · rename_i cs hcs; rw [read_set s ob h hcs]; exact hr
    · cases hr
  · simp only at hr
    split at hr
    · rename_i cs hcs; rw [read_set s ob h hcs]; exact hr
    · cases hr
  · rename_i h1 h2 h3
    split at hr
    · exact absurd rfl (h1 _ _)
    · exact absurd rfl (h2 _ _ _ _)
    · exact absurd rfl (h3 _ _ _ _)
    · cases hr
theorem srcS_set (s : Hp) {l : Nat} (ob : Ob) (h : s l = none) {k : Nat} {y : AV} {r : Nat × List AV} (hr : srcS s k y = some r) : srcS (s.set l ob) k y = some r := by
  unfold srcS at hr ⊢
  split
  · exact hr
  · rename_i h1
    split at hr
    · exact absurd rfl (h1 _)
    · exact srcF_set s ob h hr
theorem G_frame {P : Ctx} {op : AOp} {f : Fr} {s : Hp} {R : AV → Hp → Prop} {l : Nat} {ob : Ob} (hl : s l = none) (h : G P op f s R) : G P op f (s.set l ob) (Framed l ob R) := by
  have fin : ∀ r, R r s → Framed l ob R r (s.set l ob) := fun r hr => ⟨s, hr, hl, rfl⟩
  have new : ∀ (l' : Nat) (o' : Ob) (r : AV), (s.set l ob) l' = none → (s l' = none → R r (s.set l' o')) → Framed l ob R r ((s.set l ob).set l' o') := fun l' o' r h1 h2 => by
    have hne : l ≠ l' := by rintro rfl; simp [Hp.set] at h1
    rw [Hp.set_ne _ _ (Ne.symm hne)] at h1
    exact ⟨_, h2 h1, by rw [Hp.set_ne _ _ hne]; exact hl, Hp.set_set_comm s hne ob o'⟩
  cases op <;> simp only [G] at h ⊢
  case callF fn args =>
    have := ACp.frame (t := Hp.emp.set l ob) h ((disj_single s l ob).2 hl)
    rw [Hp.set_join s l ob hl] at this
    refine this.mono (fun r u ⟨s', hR, hd, hu⟩ => ⟨s', hR, (disj_single s' l ob).1 hd, ?_⟩) (fun _ _ h => h)
    rw [hu, Hp.set_join s' l ob ((disj_single s' l ob).1 hd)]
  case callV x args =>
    split at h
    case h_2 => exact h.elim
    refine ⟨h.1, ?_⟩
    have := ACp.frame (t := Hp.emp.set l ob) h.2 ((disj_single s l ob).2 hl)
    rw [Hp.set_join s l ob hl] at this
    refine this.mono (fun r u ⟨s', hR, hd, hu⟩ => ⟨s', hR, (disj_single s' l ob).1 hd, ?_⟩) (fun _ _ h => h)
    rw [hu, Hp.set_join s' l ob ((disj_single s' l ob).1 hd)]
  case s2bM x => split at h; (exact ⟨h.1, fun g cap sp h1 h2 h3 h4 => new g _ _ h1 (fun h5 => h.2 g cap sp h5 h2 h3 h4)⟩); (exact h.elim)
  case allocT T zero => exact fun l' hl' => new l' _ _ hl' (h l')
  case mkM => exact fun l' hl' => new l' _ _ hl' (h l')
  case lkp ok rs z x k =>
    split at h
    case h_2 => exact h.elim
    next l' cs he hk =>
    split at h
    case h_2 => exact h.elim
    next us clock hs =>
    have hne : l' ≠ l := by rintro rfl; rw [hl] at hs; cases hs
    rw [Hp.set_ne _ _ hne, hs]
    obtain ⟨g1, g2, g3⟩ := h
    refine ⟨g1, g2, ?_⟩
    revert g3
    cases findM us (.agg cs) 0 with
    | none => exact fin _
    | some jv => exact fin _
  case mup rs x k v =>
    split at h
    case h_2 => exact h.elim
    next l' cs he hk =>
    split at h
    case h_2 => exact h.elim
    next us clock hs =>
    have hne : l' ≠ l := by rintro rfl; rw [hl] at hs; cases hs
    rw [Hp.set_ne _ _ hne, hs]
    exact ⟨h.1, h.2.1, _, h.2.2, by rw [Hp.set_ne _ _ (Ne.symm hne)]; exact hl, Hp.set_set_comm s (Ne.symm hne) ob _⟩
  case ment rs z x k =>
    split at h
    case h_2 => exact h.elim
    next l' cs he hk =>
    split at h
    case h_2 => exact h.elim
    next us clock hs =>
    have hne : l' ≠ l := by rintro rfl; rw [hl] at hs; cases hs
    rw [Hp.set_ne _ _ hne, hs]
    exact ⟨h.1, h.2.1, _, h.2.2, by rw [Hp.set_ne _ _ (Ne.symm hne)]; exact hl, Hp.set_set_comm s (Ne.symm hne) ob _⟩
  case mst x i v =>
    split at h
    case h_2 => exact h.elim
    next l' kd b he hk =>
    split at h
    case h_2 => exact h.elim
    next us clock hs =>
    have hne : l' ≠ l := by rintro rfl; rw [hl] at hs; cases hs
    rw [Hp.set_ne _ _ hne, hs]
    simp only
    cases hb : bornM us b with
    | none => rw [hb] at h; exact h.elim
    | some j => rw [hb] at h; exact ⟨_, h, by rw [Hp.set_ne _ _ (Ne.symm hne)]; exact hl, Hp.set_set_comm s (Ne.symm hne) ob _⟩
  case rngS x => split at h; (exact fun l' hl' => new l' _ _ hl' (h l')); (exact h.elim)
  case pan x =>
    split at h
    case h_2 => exact h.elim
    obtain ⟨s2, h1, h2⟩ := h
    refine ⟨s2, fun l' o' ho => ?_, h2⟩
    have := h1 l' o' ho
    have hne : l' ≠ l := by rintro rfl; rw [hl] at this; cases this
    rw [Hp.set_ne _ _ hne]; exact this
  case asrt t ok z x =>
    split at h
    · split
      · next hd => rw [if_pos hd] at h; exact fin _ h
      · next hd => rw [if_neg hd] at h; exact ⟨h.1, fin _ h.2⟩
    · exact ⟨h.1, fin _ h.2⟩
    · exact h.elim
  case nxtS x =>
    split at h
    case h_2 => exact h.elim
    next l' off he =>
    refine ⟨h.1, ?_⟩
    have h2 := h.2
    split at h2
    case h_2 => exact h2.elim
    next t pos hs =>
    have hne : l' ≠ l := by rintro rfl; rw [hl] at hs; cases hs
    rw [Hp.set_ne _ _ hne, hs]
    simp only
    split
    · next hp => rw [if_pos hp] at h2; exact ⟨_, h2, by rw [Hp.set_ne _ _ (Ne.symm hne)]; exact hl, Hp.set_set_comm s (Ne.symm hne) ob _⟩
    · next hp => rw [if_neg hp] at h2; exact fin _ h2
  case eqpp neg x y =>
    have hc : ∀ l', isCells s l' = true → isCells (s.set l ob) l' = true := fun l' h => by
      have hne : l' ≠ l := by rintro rfl; simp [isCells, hl] at h
      unfold isCells at h ⊢
      rw [Hp.set_ne _ _ hne]; exact h
    split at h
    · exact fin _ h
    · exact fin _ h
    · exact fin _ h
    · exact ⟨⟨hc _ h.1.1, hc _ h.1.2⟩, fin _ h.2⟩
    · exact h.elim
  case toU x =>
    split at h
    · split at h
      · next cs hcs => rw [read_set s ob hl hcs]; exact ⟨h.1, fin _ h.2⟩
      · exact h.elim
    · exact h.elim
  case frU T n x =>
    split at h
    case h_2 => exact h.elim
    next l' off he =>
    refine ⟨h.1, ?_⟩
    have h2 := h.2
    split at h2
    case h_2 => exact h2.elim
    next T' cs hs =>
    have hne : l' ≠ l := by rintro rfl; rw [hl] at hs; cases hs
    rw [Hp.set_ne _ _ hne, hs]
    exact ⟨h2.1, h2.2.1, fin _ h2.2.2⟩
  case ustr e x y =>
    split at h
    · exact ⟨h.1, h.2.1, fin _ h.2.2⟩
    · next l' off k n he hey =>
      refine ⟨h.1, h.2.1, h.2.2.1, ?_⟩
      have h3 := h.2.2.2
      split at h3
      case h_2 => exact h3.elim
      next T cs hs =>
      have hne : l' ≠ l := by rintro rfl; rw [hl] at hs; cases hs
      rw [Hp.set_ne _ _ hne, hs]
      refine ⟨h3.1, h3.2.1, h3.2.2.1, ?_⟩
      have h4 := h3.2.2.2
      split at h4
      · exact ⟨_, h4, by rw [Hp.del_ne _ (Ne.symm hne)]; exact hl, Hp.del_set_comm s (Ne.symm hne) ob⟩
      · exact h4.elim
    · exact h.elim
  case appT e x y =>
    split at h
    case h_2 => exact h.elim
    rename_i m ys hsrc
    rw [srcS_set s ob hl hsrc]
    simp only
    split at h
    · refine ⟨h.1, h.2.1, h.2.2.1, ?_⟩
      have h3 := h.2.2.2
      split
      · next hn => rw [if_pos hn] at h3; exact fin _ h3
      · next hn => rw [if_neg hn] at h3; exact fun g cap sp h1 h2 h4 h6 => new g _ _ h1 (fun h5 => h3 g cap sp h5 h2 h4 h6)
    · next l' n cap k' he =>
      split at h
      case h_2 => exact h.elim
      rename_i T cs hcs
      have hne : l' ≠ l := by rintro rfl; rw [hl] at hcs; cases hcs
      rw [Hp.set_ne _ _ hne, hcs]
      refine ⟨h.1, h.2.1, h.2.2.1, h.2.2.2.1, ?_⟩
      have h3 := h.2.2.2.2
      split
      · next hn => rw [if_pos hn] at h3; exact ⟨_, h3, by rw [Hp.set_ne _ _ (Ne.symm hne)]; exact hl, Hp.set_set_comm s (Ne.symm hne) ob _⟩
      · next hn => rw [if_neg hn] at h3; exact fun g cap sp h1 h2 h4 h6 => new g _ _ h1 (fun h5 => h3 g cap sp h5 h2 h4 h6)
    · exact h.elim
  case bld zero parts => exact fillG_mono (fun cs hcs => fin _ hcs) _ _ h
  case alloc T zero => exact fun l' hl' => new l' _ _ hl' (h l')
  case box T x => exact ⟨h.1, fun l' hl' => new l' _ _ hl' (h.2 l')⟩
  case boxR T x => exact ⟨h.1, fun l' hl' => new l' _ _ hl' (h.2 l')⟩
  case mks k bytes z x y => split at h; (exact ⟨h.1, h.2.1, h.2.2.1, h.2.2.2.1, fun l' hl' => new l' _ _ hl' (h.2.2.2.2 l')⟩); (exact h.elim)
  case mm => split at h; (exact ⟨h.1, fin _ h.2⟩); (exact h.elim)
  case eqn neg x =>
    split at h
    · split at h
      · exact fin _ h
      · exact fin _ h
      · exact ⟨fun hx => fin _ (h.1 hx), fin _ h.2⟩
    · exact fin _ h
    · exact h.elim
  case bslM k xs =>
    refine ⟨h.1, ?_⟩
    split
    · next hn => rw [if_pos hn] at h; exact fin _ h.2
    · next hn => rw [if_neg hn] at h; exact fun l' hl' => new l' _ _ hl' (h.2 l')
  case b2sM x =>
    split at h
    case h_2 => exact h.elim
    rename_i m xs hsrc
    rw [srcF_set s ob hl hsrc]
    simp only
    split at h
    · exact fin _ h
    · exact h.elim
  case appM k bytes x y =>
    split at h
    case h_2 => exact h.elim
    rename_i m ys hsrc
    rw [srcS_set s ob hl hsrc]
    simp only
    split at h
    · refine ⟨h.1, h.2.1, h.2.2.1, h.2.2.2.1, ?_⟩
      have h3 := h.2.2.2.2
      split
      · next hn => rw [if_pos hn] at h3; exact fin _ h3
      · next hn => rw [if_neg hn] at h3; exact fun g cap sp h1 h2 h4 h6 => new g _ _ h1 (fun h5 => h3 g cap sp h5 h2 h4 h6)
    · next l' n cap k' he =>
      split at h
      case h_3 => exact h.elim
      all_goals
      rename_i cs hcs
      have hne : l' ≠ l := by rintro rfl; rw [hl] at hcs; cases hcs
      rw [Hp.set_ne _ _ hne, hcs]
      refine ⟨h.1, h.2.1, h.2.2.1, h.2.2.2.1, ?_⟩
      have h3 := h.2.2.2.2
      split
      · next hn => rw [if_pos hn] at h3; exact ⟨_, h3, by rw [Hp.set_ne _ _ (Ne.symm hne)]; exact hl, Hp.set_set_comm s (Ne.symm hne) ob _⟩
      · next hn => rw [if_neg hn] at h3; exact fun g cap sp h1 h2 h4 h6 => new g _ _ h1 (fun h5 => h3 g cap sp h5 h2 h4 h6)
    · exact h.elim
  case slcR k n x lo hi =>
    split at h
    · next l' off he =>
      split at h
      · refine ⟨h.1, h.2.1, h.2.2.1, ?_⟩
        have h3 := h.2.2.2
        split at h3
        · next cs hcs =>
          have hne : l' ≠ l := by rintro rfl; rw [hl] at hcs; cases hcs
          rw [Hp.set_ne _ _ hne, hcs]
          exact ⟨h3.1, fin _ h3.2⟩
        · exact h3.elim
      · exact h.elim
    · exact h.elim
  case cpy k x y =>
    split at h
    · next l' off n k' ys ow he hey =>
      refine ⟨h.1, h.2.1, ?_⟩
      have h3 := h.2.2
      split at h3
      · next cs hcs =>
        have hne : l' ≠ l := by rintro rfl; rw [hl] at hcs; cases hcs
        rw [Hp.set_ne _ _ hne, hcs]
        exact ⟨h3.1, _, h3.2, by rw [Hp.set_ne _ _ (Ne.symm hne)]; exact hl, Hp.set_set_comm s (Ne.symm hne) ob _⟩
      · exact h3.elim
    · next l' n cap k' ys ow he hey =>
      refine ⟨h.1, h.2.1, ?_⟩
      have h3 := h.2.2
      split at h3
      · next cs hcs =>
        have hne : l' ≠ l := by rintro rfl; rw [hl] at hcs; cases hcs
        rw [Hp.set_ne _ _ hne, hcs]
        exact ⟨h3.1, _, h3.2, by rw [Hp.set_ne _ _ (Ne.symm hne)]; exact hl, Hp.set_set_comm s (Ne.symm hne) ob _⟩
      · exact h3.elim
    · exact h.elim
  case bsl k xs =>
    refine ⟨h.1, ?_⟩
    split
    · next hn => rw [if_pos hn] at h; exact fin _ h.2
    · next hn => rw [if_neg hn] at h; exact fun l' hl' => new l' _ _ hl' (h.2 l')
  case load agg n x =>
    split at h
    · split at h
      · next cs hcs => rw [read_set s ob hl hcs]; exact ⟨h.1, fin _ h.2⟩
      · exact h.elim
    · exact ⟨h.1, fin _ h.2⟩
    · exact h.elim
  case store n x y =>
    split at h
    · next l' off he =>
      split at h
      case h_2 => exact h.elim
      next hcs =>
        have hne : l' ≠ l := by rintro rfl; rw [hl] at hcs; cases hcs
        rw [Hp.set_ne _ _ hne, hcs]
        exact ⟨h.1, h.2.1, _, h.2.2, by rw [Hp.set_ne _ _ (Ne.symm hne)]; exact hl, Hp.set_set_comm s (Ne.symm hne) ob _⟩
    · exact h.elim
  case storeX n x y =>
    split at h
    · next l' off he =>
      split at h
      case h_4 => exact h.elim
      all_goals
      next hcs =>
        have hne : l' ≠ l := by rintro rfl; rw [hl] at hcs; cases hcs
        rw [Hp.set_ne _ _ hne, hcs]
        exact ⟨h.1, h.2.1, _, h.2.2, by rw [Hp.set_ne _ _ (Ne.symm hne)]; exact hl, Hp.set_set_comm s (Ne.symm hne) ob _⟩
    · exact h.elim
  case slcA k n x lo hi ro =>
    split at h
    · next l' off he =>
      split at h
      · refine ⟨h.1, h.2.1, h.2.2.1, ?_⟩
        have h3 := h.2.2.2
        split at h3
        · next cs hcs =>
          have hne : l' ≠ l := by rintro rfl; simp [Hp.read, hl] at hcs
          rw [read_set s ob hl hcs]
          refine ⟨h3.1, ?_⟩
          have h4 := h3.2
          split
          · next hr => rw [if_pos hr] at h4; exact ⟨_, h4, by rw [Hp.set_ne _ _ (Ne.symm hne)]; exact hl, Hp.set_set_comm s (Ne.symm hne) ob _⟩
          · next hr => rw [if_neg hr] at h4; exact ⟨h4.1, fin _ h4.2⟩
        · exact h3.elim
      · exact h.elim
    · exact h.elim
  case app k bytes x y =>
    split at h <;> try exact h.elim
    rename_i xs o ys o' _ _
    refine ⟨h.1, h.2.1, h.2.2.1, h.2.2.2.1, ?_⟩
    have h3 := h.2.2.2.2
    cases o <;> simp only at h3 ⊢
    case nil =>
      refine ⟨h3.1, ?_⟩
      split
      · next hn => rw [if_pos hn] at h3; exact fin _ h3.2
      · next hn => rw [if_neg hn] at h3; exact fun g c hg => new g _ _ hg (fun h => h3.2 g c h)
    case zero =>
      refine ⟨h3.1, ?_⟩
      split
      · next hn => rw [if_pos hn] at h3; exact fin _ h3.2
      · next hn => rw [if_neg hn] at h3; exact fun g c hg => new g _ _ hg (fun h => h3.2 g c h)
    case buf g c _ =>
      have hne : g ≠ l := by rintro rfl; rw [hl] at h3; cases h3.1
      refine ⟨by rw [Hp.set_ne _ _ hne]; exact h3.1, fun g' c' hg' => ?_⟩
      have hne' : g' ≠ l := by
        rintro rfl
        rcases hg' with h | h
        · exact hne h.symm
        · rw [Hp.set_same] at h; cases h
      have hg2 : g' = g ∨ s g' = none := hg'.imp id (fun h => by rwa [Hp.set_ne _ _ hne'] at h)
      refine ⟨_, h3.2 g' c' hg2, by rw [Hp.set_ne _ _ (Ne.symm hne'), Hp.del_ne _ (Ne.symm hne)]; exact hl, ?_⟩
      rw [Hp.del_set_comm s (Ne.symm hne) ob, Hp.set_set_comm _ (Ne.symm hne') ob]
  case pick => split at h; (exact fin _ h); (exact h.elim)
  case iaS k x i =>
    split at h
    · refine ⟨h.1, ?_⟩
      have h2 := h.2
      split at h2
      · exact ⟨h2.1, fin _ h2.2⟩
      · exact h2.elim
    · exact ⟨h.1, h.2.1, h.2.2.1, fin _ h.2.2.2⟩
    · exact ⟨h.1, h.2.1, h.2.2.1, fin _ h.2.2.2⟩
    · exact h.elim
  case idxS x i =>
    split at h
    · refine ⟨h.1, ?_⟩
      have h2 := h.2
      split at h2
      · exact fin _ h2
      · exact h2.elim
    · exact h.elim
  all_goals
    (repeat' split at h) <;> first
      | exact h.elim
      | exact fin _ h
      | exact ⟨h.1, fin _ h.2⟩
      | exact ⟨h.1, h.2.1, fin _ h.2.2⟩
      | exact ⟨h.1, h.2.1, h.2.2.1, fin _ h.2.2.2⟩
      | exact ⟨h.1, h.2.1, h.2.2.1, h.2.2.2.1, fin _ h.2.2.2.2⟩
      | exact ⟨h.1, h.2.1, h.2.2.1, h.2.2.2.1, h.2.2.2.2.1, fin _ h.2.2.2.2.2⟩
theorem E_frame {P : Ctx} {x : AOper} {f : Fr} {s : Hp} {R : AV → Hp → Prop} {l : Nat} {ob : Ob} (hl : s l = none) (h : E P x f s R) : E P x f (s.set l ob) (Framed l ob R) := by
  have fin : ∀ r, R r s → Framed l ob R r (s.set l ob) := fun r hr => ⟨s, hr, hl, rfl⟩
  unfold E at *
  cases hg : x.guard with
  | none => rw [hg] at h; exact G_frame hl h
  | some gw =>
    obtain ⟨g, want⟩ := gw
    rw [hg] at h
    simp only at h ⊢
    split at h
    · split at h
      · next hb => rw [if_pos hb]; exact G_frame hl h
      · next hb => rw [if_neg hb]; exact fin _ h
    · exact fin _ h
    · exact h.elim
def isPure : AOp → Bool
  | .alloc _ _ | .allocT _ _ | .mkM | .lkp _ _ _ _ _ | .mup _ _ _ _ | .ment _ _ _ _ | .mst _ _ _ | .storeX _ _ _ | .rngS _ | .nxtS _ | .pan _ | .callV _ _ | .s2bM _ | .appT _ _ _ | .toU _ | .frU _ _ _ | .ustr _ _ _ | .eqpp _ _ _ | .box _ _ | .boxR _ _ | .load _ _ _ | .store _ _ _ | .bsl _ _ | .slcA _ _ _ _ _ _ | .slcR _ _ _ _ _ | .app _ _ _ _ | .callF _ _ | .mks _ _ _ _ _ | .cpy _ _ _ | .eqn _ _ | .bslM _ _ | .appM _ _ _ _ | .b2sM _ => false
  | _ => true
def isLoad : AOp → Bool
  | .load _ _ _ | .slcR _ _ _ _ _ | .b2sM _ | .toU _ | .frU _ _ _ | .eqpp _ _ _ => true
  | _ => false
def isAdder : AOp → Bool
  | .alloc _ _ | .allocT _ _ | .mkM | .rngS _ | .box _ _ | .boxR _ _ | .bsl _ _ | .bslM _ _ | .mks _ _ _ _ _ => true
  | _ => false
theorem fillG_iff {f : Fr} : ∀ (ps : List (Nat × Nat × Operand)) (cells : List AV) {Kc0 : List AV → Prop}, fillG f cells ps Kc0 → ∃ r, ∀ Kc : List AV → Prop, fillG f cells ps Kc ↔ Kc r
  | [], cells, _, _ => ⟨cells, fun Kc => Iff.rfl⟩
  | (off, sz, x) :: r, cells, _, h => by
    obtain ⟨r', h'⟩ := fillG_iff r _ h.2.2
    exact ⟨r', fun Kc => ⟨fun hh => (h' Kc).1 hh.2.2, fun hh => ⟨h.1, h.2.1, (h' Kc).2 hh⟩⟩⟩
theorem pure_iff {P : Ctx} {op : AOp} (h : isPure op = true) {f : Fr} {s0 : Hp} {K0 : AV → Hp → Prop} (hG : G P op f s0 K0) : ∃ r, ∀ (s : Hp) (K : AV → Hp → Prop), G P op f s K ↔ K r s := by
  cases op <;> simp only [isPure, Bool.false_eq_true] at h <;> simp only [G] at hG ⊢
  case pick => split at hG; (exact ⟨_, fun s K => Iff.rfl⟩); (exact hG.elim)
  case bld zero parts =>
    obtain ⟨r, hr⟩ := fillG_iff _ _ hG
    exact ⟨.agg r, fun s K => hr _⟩
  case mm => split at hG; (exact ⟨_, fun s K => ⟨fun h => h.2, fun h => ⟨hG.1, h⟩⟩⟩); (exact hG.elim)
  case asrt t ok z x =>
    split at hG
    · split at hG
      · next hd => simp only [if_pos hd]; exact ⟨_, fun s K => Iff.rfl⟩
      · next hd => simp only [if_neg hd]; exact ⟨_, fun s K => ⟨fun h => h.2, fun h => ⟨hG.1, h⟩⟩⟩
    · exact ⟨_, fun s K => ⟨fun h => h.2, fun h => ⟨hG.1, h⟩⟩⟩
    · exact hG.elim
  case iaS k x i =>
    split at hG
    · have h2 := hG.2
      split at h2
      · exact ⟨_, fun s K => ⟨fun h => h.2.2, fun h => ⟨hG.1, h2.1, h⟩⟩⟩
      · exact h2.elim
    · exact ⟨_, fun s K => ⟨fun h => h.2.2.2, fun h => ⟨hG.1, hG.2.1, hG.2.2.1, h⟩⟩⟩
    · exact ⟨_, fun s K => ⟨fun h => h.2.2.2, fun h => ⟨hG.1, hG.2.1, hG.2.2.1, h⟩⟩⟩
    · exact hG.elim
  case idxS x i =>
    split at hG
    · have h2 := hG.2
      split at h2
      · exact ⟨_, fun s K => ⟨fun h => h.2, fun h => ⟨hG.1, h⟩⟩⟩
      · exact h2.elim
    · exact hG.elim
  all_goals
    (repeat' split at hG) <;> first
      | exact hG.elim
      | exact ⟨_, fun s K => Iff.rfl⟩
      | exact ⟨_, fun s K => ⟨fun h => h.2, fun h => ⟨hG.1, h⟩⟩⟩
      | exact ⟨_, fun s K => ⟨fun h => h.2.2, fun h => ⟨hG.1, hG.2.1, h⟩⟩⟩
      | exact ⟨_, fun s K => ⟨fun h => h.2.2.2, fun h => ⟨hG.1, hG.2.1, hG.2.2.1, h⟩⟩⟩
      | exact ⟨_, fun s K => ⟨fun h => h.2.2.2.2, fun h => ⟨hG.1, hG.2.1, hG.2.2.1, hG.2.2.2.1, h⟩⟩⟩
      | exact ⟨_, fun s K => ⟨fun h => h.2.2.2.2.2, fun h => ⟨hG.1, hG.2.1, hG.2.2.1, hG.2.2.2.1, hG.2.2.2.2.1, h⟩⟩⟩
theorem load_iff {P : Ctx} {op : AOp} (h : isLoad op = true) {f : Fr} {s : Hp} {K0 : AV → Hp → Prop} (hG : G P op f s K0) : ∃ r, ∀ (K : AV → Hp → Prop), G P op f s K ↔ K r s := by
  cases op <;> simp only [isLoad, Bool.false_eq_true] at h <;> simp only [G] at hG ⊢
  case load =>
    split at hG
    · split at hG
      · exact ⟨_, fun K => ⟨fun h => h.2, fun h => ⟨hG.1, h⟩⟩⟩
      · exact hG.elim
    · exact ⟨_, fun K => ⟨fun h => h.2, fun h => ⟨hG.1, h⟩⟩⟩
    · exact hG.elim
  case slcR =>
    split at hG
    · split at hG
      · have h3 := hG.2.2.2
        split at h3
        · exact ⟨_, fun K => ⟨fun h => h.2.2.2.2, fun h => ⟨hG.1, hG.2.1, hG.2.2.1, h3.1, h⟩⟩⟩
        · exact h3.elim
      · exact hG.elim
    · exact hG.elim
  case b2sM =>
    split at hG
    case h_2 => exact hG.elim
    split at hG
    · exact ⟨_, fun K => Iff.rfl⟩
    · exact hG.elim
  case toU =>
    split at hG
    · split at hG
      · exact ⟨_, fun K => ⟨fun h => h.2, fun h => ⟨hG.1, h⟩⟩⟩
      · exact hG.elim
    · exact hG.elim
  case frU =>
    split at hG
    case h_2 => exact hG.elim
    have h2 := hG.2
    split at h2
    · exact ⟨_, fun K => ⟨fun h => h.2.2.2, fun h => ⟨hG.1, h2.1, h2.2.1, h⟩⟩⟩
    · exact h2.elim
  case eqpp =>
    (repeat' split at hG) <;> first
      | exact hG.elim
      | exact ⟨_, fun K => Iff.rfl⟩
      | exact ⟨_, fun K => ⟨fun h => h.2, fun h => ⟨hG.1, h⟩⟩⟩
theorem adder_iff {P : Ctx} {op : AOp} (h : isAdder op = true) {f : Fr} (hG : G P op f Hp.emp fun _ _ => True) :
    (∃ r, ∀ (s : Hp) (K : AV → Hp → Prop), G P op f s K ↔ K r s) ∨ ∃ (mk : Nat → AV) (ob : Nat → Ob), ∀ (s : Hp) (K : AV → Hp → Prop), G P op f s K ↔ ∀ l, s l = none → K (mk l) (s.set l (ob l)) := by
  cases op <;> simp only [isAdder, Bool.false_eq_true] at h <;> simp only [G] at hG ⊢
  case alloc T zero => exact .inr ⟨_, _, fun s K => Iff.rfl⟩
  case allocT T zero => exact .inr ⟨_, fun _ => _, fun s K => Iff.rfl⟩
  case mkM => exact .inr ⟨_, fun _ => _, fun s K => Iff.rfl⟩
  case rngS x => split at hG; (exact .inr ⟨_, fun _ => _, fun s K => Iff.rfl⟩); (exact hG.elim)
  case box T x => exact .inr ⟨_, fun _ => _, fun s K => ⟨fun h => h.2, fun h => ⟨hG.1, h⟩⟩⟩
  case boxR T x => exact .inr ⟨_, fun _ => _, fun s K => ⟨fun h => h.2, fun h => ⟨hG.1, h⟩⟩⟩
  case mks k bytes z x y => split at hG; (exact .inr ⟨fun g => .mb g _ _ k, fun _ => _, fun s K => ⟨fun h => h.2.2.2.2, fun h => ⟨hG.1, hG.2.1, hG.2.2.1, hG.2.2.2.1, h⟩⟩⟩); (exact hG.elim)
  case bsl k xs =>
    by_cases hn : xs.length = 0
    · simp only [if_pos hn] at hG ⊢
      exact .inl ⟨_, fun s K => ⟨fun h => h.2, fun h => ⟨hG.1, h⟩⟩⟩
    · simp only [if_neg hn] at hG ⊢
      exact .inr ⟨fun g => .sl (xs.map (ev f)) (.buf g xs.length), fun _ => .buf k xs.length xs.length, fun s K => ⟨fun h => h.2, fun h => ⟨hG.1, h⟩⟩⟩
  case bslM k xs =>
    by_cases hn : xs.length = 0
    · simp only [if_pos hn] at hG ⊢
      exact .inl ⟨_, fun s K => ⟨fun h => h.2, fun h => ⟨hG.1, h⟩⟩⟩
    · simp only [if_neg hn] at hG ⊢
      exact .inr ⟨fun g => .mb g xs.length xs.length k, fun _ => .cells (flat (xs.map (ev f))), fun s K => ⟨fun h => h.2, fun h => ⟨hG.1, h⟩⟩⟩
theorem adder_def {P : Ctx} {op : AOp} (h : isAdder op = true) {f : Fr} {s : Hp} {K : AV → Hp → Prop} (hG : G P op f s K) : G P op f Hp.emp fun _ _ => True := by
  cases op <;> simp only [isAdder, Bool.false_eq_true] at h <;> simp only [G] at hG ⊢
  case alloc T zero => exact fun _ _ => trivial
  case allocT T zero => exact fun _ _ => trivial
  case mkM => exact fun _ _ => trivial
  case rngS x => split at hG; (exact fun _ _ => trivial); (exact hG.elim)
  case box T x => exact ⟨hG.1, fun _ _ => trivial⟩
  case boxR T x => exact ⟨hG.1, fun _ _ => trivial⟩
  case mks => split at hG; (exact ⟨hG.1, hG.2.1, hG.2.2.1, hG.2.2.2.1, fun _ _ => trivial⟩); (exact hG.elim)
  case bsl k xs => refine ⟨hG.1, ?_⟩; split; (trivial); (exact fun _ _ => trivial)
  case bslM k xs => refine ⟨hG.1, ?_⟩; split; (trivial); (exact fun _ _ => trivial)
def Def (P : Ctx) (x : AOper) (f : Fr) : Prop := E P x f Hp.emp fun _ _ => True
theorem E_pure_iff {P : Ctx} {x : AOper} (h : isPure x.op = true) {f : Fr} {s0 : Hp} {K0 : AV → Hp → Prop} (hE : E P x f s0 K0) : ∃ r, ∀ (s : Hp) (K : AV → Hp → Prop), E P x f s K ↔ K r s := by
  unfold E at *
  cases hg : x.guard with
  | none => rw [hg] at hE; exact pure_iff h hE
  | some gw =>
    obtain ⟨g, want⟩ := gw
    rw [hg] at hE
    simp only at hE ⊢
    split at hE
    · split at hE
      · next hb => simp only [if_pos hb]; exact pure_iff h hE
      · next hb => simp only [if_neg hb]; exact ⟨_, fun s K => Iff.rfl⟩
    · exact ⟨_, fun s K => Iff.rfl⟩
    · exact hE.elim
theorem E_load_iff {P : Ctx} {x : AOper} (h : isLoad x.op = true) {f : Fr} {s : Hp} {K0 : AV → Hp → Prop} (hE : E P x f s K0) : ∃ r, ∀ (K : AV → Hp → Prop), E P x f s K ↔ K r s := by
  unfold E at *
  cases hg : x.guard with
  | none => rw [hg] at hE; exact load_iff h hE
  | some gw =>
    obtain ⟨g, want⟩ := gw
    rw [hg] at hE
    simp only at hE ⊢
    split at hE
    · split at hE
      · next hb => simp only [if_pos hb]; exact load_iff h hE
      · next hb => simp only [if_neg hb]; exact ⟨_, fun K => Iff.rfl⟩
    · exact ⟨_, fun K => Iff.rfl⟩
    · exact hE.elim
theorem E_adder_def {P : Ctx} {x : AOper} (h : isAdder x.op = true) {f : Fr} {s : Hp} {K : AV → Hp → Prop} (hE : E P x f s K) : Def P x f := by
  unfold Def
  unfold E at *
  cases hg : x.guard with
  | none => rw [hg] at hE; exact adder_def h hE
  | some gw =>
    obtain ⟨g, want⟩ := gw
    rw [hg] at hE
    simp only at hE ⊢
    split at hE
    · split at hE
      · next hb => rw [if_pos hb]; exact adder_def h hE
      · next hb => rw [if_neg hb]; trivial
    · trivial
    · exact hE.elim
theorem E_adder_iff {P : Ctx} {x : AOper} (h : isAdder x.op = true) {f : Fr} (hE : Def P x f) :
    (∃ r, ∀ (s : Hp) (K : AV → Hp → Prop), E P x f s K ↔ K r s) ∨ ∃ (mk : Nat → AV) (ob : Nat → Ob), ∀ (s : Hp) (K : AV → Hp → Prop), E P x f s K ↔ ∀ l, s l = none → K (mk l) (s.set l (ob l)) := by
  unfold Def at hE
  unfold E at *
  cases hg : x.guard with
  | none => rw [hg] at hE; exact adder_iff h hE
  | some gw =>
    obtain ⟨g, want⟩ := gw
    rw [hg] at hE
    simp only at hE ⊢
    split at hE
    · split at hE
      · next hb => simp only [if_pos hb]; exact adder_iff h hE
      · next hb => simp only [if_neg hb]; exact .inl ⟨_, fun s K => Iff.rfl⟩
    · exact .inl ⟨_, fun s K => Iff.rfl⟩
    · exact hE.elim
end Go.Av
namespace Go.Av
open Go
structure CO where
  i : Nat
  pre : List Nat
  chk : List Nat
section
variable (P : Ctx) (xs : Nat → AOper)
def Chk (j : Nat) (f : Fr) (s : Hp) : Prop :=
  match (xs j).dst with
  | some d => E P (xs j) f s fun r _ => r = f d
  | none => True
def can (K : Fr → Hp → Prop) : List CO → Fr → Hp → Prop
  | [] => K
  | c :: r => fun f s => (∀ j ∈ c.pre, Def P (xs j) f) ∧ T P (xs c.i) (fun f' s' => (∀ j ∈ c.chk, Chk P xs j f' s') ∧ can K r f' s') f s
def clear (d : Option Nat) (l : List Nat) : Bool := match d with | some t => !l.contains t | none => true
def unlike (d e : Option Nat) : Bool := match d, e with | some t, some u => t != u | _, _ => true
def indep (k i : CO) (mid : List Nat) : Bool :=
  clear (xs k.i).dst (xs i.i).reads && clear (xs i.i).dst (xs k.i).reads && unlike (xs k.i).dst (xs i.i).dst &&
  i.chk.all (fun j => j == k.i || mid.contains j || (clear (xs k.i).dst (xs j).reads && unlike (xs k.i).dst (xs j).dst)) &&
  ((k.pre.isEmpty && k.chk.isEmpty && (isPure (xs k.i).op || (isLoad (xs k.i).op && ((isPure (xs i.i).op || isLoad (xs i.i).op || isAdder (xs i.i).op) || (i.chk.contains k.i && clear (xs k.i).dst (xs k.i).reads && (xs k.i).dst.isSome))))) ||
   (i.chk.isEmpty && (isPure (xs i.i).op || isAdder (xs i.i).op) && k.pre.contains i.i && k.pre.all (fun j => clear (xs i.i).dst (xs j).reads) &&
     k.chk.all (fun j => clear (xs i.i).dst (xs j).reads && unlike (xs i.i).dst (xs j).dst)))
variable {P xs}
theorem clear_spec {d : Option Nat} {l : List Nat} (h : clear d l = true) : ∀ t, d = some t → t ∉ l := by
  intro t ht; subst ht; simpa [clear] using h
theorem unlike_spec {d e : Option Nat} (h : unlike d e = true) : ∀ t, d = some t → e ≠ some t := by
  intro t ht he; subst ht; subst he; simp [unlike] at h
theorem Chk_put {j : Nat} {d : Option Nat} (h1 : clear d (xs j).reads = true) (h2 : unlike d (xs j).dst = true) (f : Fr) (r : AV) (s : Hp) : Chk P xs j (putF f d r) s ↔ Chk P xs j f s := by
  unfold Chk
  cases hd : (xs j).dst with
  | none => exact Iff.rfl
  | some dj =>
    simp only
    rw [E_put d (clear_spec h1), putF_ne f d r dj (by
      intro he
      exact unlike_spec h2 dj he hd)]
theorem Chk_frame {j : Nat} {f : Fr} {s : Hp} {l : Nat} {ob : Ob} (hl : s l = none) (h : Chk P xs j f s) : Chk P xs j f (s.set l ob) := by
  unfold Chk at *
  cases hd : (xs j).dst with
  | none => trivial
  | some dj =>
    rw [hd] at h
    exact E_mono (fun r u ⟨s', hr, _, _⟩ => hr) (E_frame hl h)
def Pass (xs : Nat → AOper) (i : CO) : List CO → Prop
  | [] => True
  | k :: l1 => indep xs k i (l1.map (·.i)) = true ∧ Pass xs i l1
theorem bubble {K : Fr → Hp → Prop} (i : CO) (l2 : List CO) : ∀ (l1 : List CO), Pass xs i l1 → (l1.map (·.i)).Nodup → ∀ (f : Fr) (s : Hp), can P xs K (l1 ++ i :: l2) f s →
    T P (xs i.i) (fun f' s' => (∀ j ∈ i.chk, j ∉ l1.map (·.i) → Chk P xs j f' s') ∧ can P xs K (l1 ++ l2) f' s') f s
  | [], _, _, f, s, h => T_mono (fun f' s' hh => ⟨fun j hj _ => hh.1 j hj, hh.2⟩) h.2
  | k :: l1, hk, hnd, f, s, h => by
    have hki := hk.1
    have hnd1 : (l1.map (·.i)).Nodup := by simp only [List.map_cons, List.nodup_cons] at hnd; exact hnd.2
    have hknot : k.i ∉ l1.map (·.i) := by simp only [List.map_cons, List.nodup_cons] at hnd; exact hnd.1
    have ih := bubble (K := K) i l2 l1 hk.2 hnd1
    obtain ⟨hpre, hT⟩ := h
    simp only [indep, Bool.and_eq_true] at hki
    obtain ⟨⟨⟨⟨a1, a2⟩, a3⟩, a4⟩, hcase⟩ := hki
    have c1 := clear_spec a1
    have c2 := clear_spec a2
    have c3 := unlike_spec a3
    have a4' : ∀ j ∈ i.chk, j ≠ k.i → j ∉ l1.map (·.i) → clear (xs k.i).dst (xs j).reads = true ∧ unlike (xs k.i).dst (xs j).dst = true := fun j hj hne hnm => by
      have := List.all_eq_true.1 a4 j hj
      simp only [Bool.or_eq_true, beq_iff_eq, Bool.and_eq_true, List.contains_iff_mem] at this
      exact this.resolve_left (fun h => h.elim hne hnm)
    -- inside k, i comes first
    have hT1 : T P (xs k.i) (fun f' s' => (∀ j ∈ k.chk, Chk P xs j f' s') ∧ T P (xs i.i) (fun f'' s'' => (∀ j ∈ i.chk, j ∉ l1.map (·.i) → Chk P xs j f'' s'') ∧ can P xs K (l1 ++ l2) f'' s'') f' s') f s :=
      T_mono (fun f' s' hh => ⟨hh.1, ih f' s' hh.2⟩) hT
    clear hT ih
    simp only [Bool.or_eq_true, Bool.and_eq_true] at hcase
    rcases hcase with ⟨⟨hp0, hc0⟩, hcl⟩ | ⟨⟨⟨⟨hic, hicl⟩, hin⟩, hpa⟩, hca⟩
    · -- k is a reader
      have hp0' : k.pre = [] := List.isEmpty_iff.1 hp0
      have hc0' : k.chk = [] := List.isEmpty_iff.1 hc0
      -- the value, and what it takes to read it later
      have hfin : ∀ (r : AV) (u : AV) (s' : Hp), (∀ K', E P (xs k.i) f s' K' ↔ K' r s') →
          ((∀ j ∈ i.chk, j ∉ l1.map (·.i) → Chk P xs j (putF (putF f (xs k.i).dst r) (xs i.i).dst u) s') ∧ can P xs K (l1 ++ l2) (putF (putF f (xs k.i).dst r) (xs i.i).dst u) s') →
          (∀ j ∈ i.chk, j ∉ (k :: l1).map (·.i) → Chk P xs j (putF f (xs i.i).dst u) s') ∧ can P xs K (k :: l1 ++ l2) (putF f (xs i.i).dst u) s' := fun r u s' hr hM => by
        rw [putF_comm f _ _ r u c3] at hM
        refine ⟨fun j hj hjn => ?_, ?_⟩
        · simp only [List.map_cons, List.mem_cons, not_or] at hjn
          have := hM.1 j hj hjn.2
          obtain ⟨b1, b2⟩ := a4' j hj hjn.1 hjn.2
          rwa [Chk_put b1 b2] at this
        · refine ⟨by rw [hp0']; simp, ?_⟩
          unfold T
          rw [E_put _ c2]
          refine (hr _).2 ⟨by rw [hc0']; simp, hM.2⟩
      rcases hcl with hpure | ⟨hload, hcl2⟩
      · obtain ⟨r, hr⟩ := E_pure_iff hpure hT1
        have h1 := (hr s _).1 hT1
        have h2 := h1.2
        unfold T at h2 ⊢
        rw [E_put _ c1] at h2
        exact E_mono (fun u s' hM => hfin r u s' (fun K' => hr s' K') hM) h2
      · obtain ⟨r, hr⟩ := E_load_iff hload hT1
        have h1 := (hr _).1 hT1
        have h2 := h1.2
        unfold T at h2 ⊢
        rw [E_put _ c1] at h2
        rcases hcl2 with hri | ⟨⟨hmem, hself⟩, hsome⟩
        · rcases hri with hri | hadd
          case inr =>
            -- i adds an object: what k reads is as it was
            rcases E_adder_iff hadd (E_adder_def hadd h2) with ⟨u, hu⟩ | ⟨mk, ob, hu⟩
            · rw [hu] at h2 ⊢
              exact hfin r u s hr h2
            · rw [hu] at h2 ⊢
              intro l hl
              refine hfin r (mk l) _ ?_ (h2 l hl)
              have hk0 : E P (xs k.i) f s fun r' _ => r' = r := (hr _).2 rfl
              have hk1 : E P (xs k.i) f (s.set l (ob l)) fun r' _ => r' = r := E_mono (fun _ _ ⟨_, hh, _, _⟩ => hh) (E_frame (ob := ob l) hl hk0)
              obtain ⟨r2, hr2⟩ := E_load_iff hload hk1
              have hrr : r2 = r := (hr2 _).1 hk1
              subst hrr
              exact hr2
          -- both only read
          have hi : ∃ u, ∀ K' : AV → Hp → Prop, E P (xs i.i) f s K' ↔ K' u s := by
            rcases hri with hi | hi
            · obtain ⟨u, hu⟩ := E_pure_iff hi h2; exact ⟨u, fun K' => hu s K'⟩
            · exact E_load_iff hi h2
          obtain ⟨u, hu⟩ := hi
          rw [hu] at h2 ⊢
          exact hfin r u s hr h2
        · refine E_mono (fun u s' hM => ?_) h2
          have hck := hM.1 k.i (by simpa using hmem) hknot
          obtain ⟨dk, hdk⟩ := Option.isSome_iff_exists.1 hsome
          have hck2 : E P (xs k.i) f s' fun r' _ => r' = r := by
            have := hck
            rw [putF_comm f _ _ r u c3] at this
            unfold Chk at this
            rw [hdk] at this
            simp only at this
            rw [putF_same, ← hdk, E_put _ (clear_spec hself), E_put _ c2] at this
            exact this
          obtain ⟨r2, hr2⟩ := E_load_iff hload hck2
          have hrr : r2 = r := (hr2 _).1 hck2
          subst hrr
          exact hfin r2 u s' hr2 hM
    · -- k acts; i is pure, or adds
      have hic' : i.chk = [] := List.isEmpty_iff.1 hic
      have hdef : Def P (xs i.i) f := hpre i.i (by simpa using hin)
      have hform : (∃ r, ∀ (s : Hp) (K : AV → Hp → Prop), E P (xs i.i) f s K ↔ K r s) ∨ ∃ (mk : Nat → AV) (ob : Nat → Ob), ∀ (s : Hp) (K : AV → Hp → Prop), E P (xs i.i) f s K ↔ ∀ l, s l = none → K (mk l) (s.set l (ob l)) := by
        rcases hicl with hi | hi
        · exact .inl (E_pure_iff hi hdef)
        · exact E_adder_iff hi hdef
      have hpre' : ∀ u, ∀ j ∈ k.pre, Def P (xs j) (putF f (xs i.i).dst u) := fun u j hj => by
        unfold Def
        rw [E_put _ (clear_spec (List.all_eq_true.1 hpa j hj))]
        exact hpre j hj
      have hchk : ∀ j ∈ k.chk, ∀ (F : Fr) (u : AV) (S : Hp), Chk P xs j F S → Chk P xs j (putF F (xs i.i).dst u) S := fun j hj F u S hh => by
        have := List.all_eq_true.1 hca j hj
        simp only [Bool.and_eq_true] at this
        rw [Chk_put this.1 this.2]; exact hh
      unfold T at hT1
      rcases hform with ⟨u, hu⟩ | ⟨mk, ob, hu⟩
      · unfold T
        rw [hu]
        refine ⟨fun j hj => (by rw [hic'] at hj; cases hj), hpre' u, ?_⟩
        unfold T
        rw [E_put _ c2]
        refine E_mono (fun v s1 hh => ?_) hT1
        have h2 := hh.2
        rw [E_put _ c1, hu, putF_comm f _ _ v u c3] at h2
        refine ⟨fun j hj => ?_, h2.2⟩
        rw [← putF_comm f _ _ v u c3]
        exact hchk j hj _ _ _ (hh.1 j hj)
      · unfold T
        rw [hu]
        intro l hl
        refine ⟨fun j hj => (by rw [hic'] at hj; cases hj), hpre' (mk l), ?_⟩
        unfold T
        rw [E_put _ c2]
        refine E_mono (fun v S hS => ?_) (E_frame (ob := ob l) hl hT1)
        obtain ⟨s1, hh, hl1, rfl⟩ := hS
        have h2 := hh.2
        rw [E_put _ c1, hu] at h2
        have h3 := h2 l hl1
        rw [putF_comm f _ _ v (mk l) c3] at h3
        refine ⟨fun j hj => ?_, h3.2⟩
        rw [← putF_comm f _ _ v (mk l) c3]
        exact hchk j hj _ _ _ (Chk_frame hl1 (hh.1 j hj))
def befGo (preds : Nat → List Nat) : Nat → List Nat → Nat → List Nat
  | 0, acc, _ => acc
  | k + 1, acc, n => befGo preds k (acc ++ [(preds n).foldl (fun m j => m ||| 2 ^ j ||| acc.getD j 0) 0]) (n + 1)
def dep (bs : List Nat) (c i : Nat) : Bool := (bs.getD i 0).testBit c
def okRow (xs : Nat → AOper) (bs : List Nat) (k : CO) : List Nat → List CO → Bool
  | _, [] => true
  | mid, i :: r => (dep bs k.i i.i || indep xs k i mid) && okRow xs bs k (mid ++ [i.i]) r
def okPairs (xs : Nat → AOper) (bs : List Nat) : List CO → Bool
  | [] => true
  | k :: r => okRow xs bs k [] r && okPairs xs bs r
def predsOf (ops : Array Oper) (i : Nat) : List Nat :=
  match ops[i]? with
  | some o => (o.after.toList.filter fun e => Region.binds .any e).map (·.on)
  | none => []
def aAny (P : Ctx) (xs : Nat → AOper) (ops : Array Oper) (K : Fr → Hp → Prop) : Nat → Array Bool → Fr → Hp → Prop
  | 0, listed, f, s => Region.ready .any ops listed = [] ∧ K f s
  | fuel + 1, listed, f, s => (Region.ready .any ops listed = [] → K f s) ∧ ∀ i ∈ Region.ready .any ops listed, T P (xs i) (aAny P xs ops K fuel (listed.setIfInBounds i true)) f s
def Closed (ops : Array Oper) (listed : Array Bool) : Prop := ∀ i, i < ops.size → listed.getD i true = true → ∀ j ∈ predsOf ops i, listed.getD j false = true
theorem mem_preds {ops : Array Oper} {i j : Nat} : j ∈ predsOf ops i ↔ ∃ o, ops[i]? = some o ∧ ∃ e ∈ o.after, Region.binds .any e = true ∧ e.on = j := by
  unfold predsOf
  cases h : ops[i]? with
  | none => simp
  | some o =>
    simp only [List.mem_map, List.mem_filter, Array.mem_toList_iff, Option.some.injEq, exists_eq_left']
    constructor
    · rintro ⟨e, ⟨h1, h2⟩, h3⟩; exact ⟨e, h1, h2, h3⟩
    · rintro ⟨e, h1, h2, h3⟩; exact ⟨e, ⟨h1, h2⟩, h3⟩
theorem ready_iff {ops : Array Oper} {listed : Array Bool} {i : Nat} : i ∈ Region.ready .any ops listed ↔ listed.getD i true = false ∧ i < ops.size ∧ ∀ j ∈ predsOf ops i, listed.getD j false = true := by
  rw [mem_ready]
  constructor
  · rintro ⟨h0, o, ho, hall⟩
    refine ⟨h0, (Array.getElem?_eq_some_iff.1 ho).1, fun j hj => ?_⟩
    obtain ⟨o', ho', e, he, hb, rfl⟩ := mem_preds.1 hj
    rw [ho] at ho'
    obtain rfl := Option.some.inj ho'
    exact hall e he hb
  · rintro ⟨h0, hlt, hall⟩
    exact ⟨h0, ops[i], Array.getElem?_eq_getElem hlt, fun e he hb => hall _ (mem_preds.2 ⟨_, Array.getElem?_eq_getElem hlt, e, he, hb, rfl⟩)⟩
theorem foldl_bit (l : List Nat) (acc : List Nat) (c : Nat) : ∀ m, (l.foldl (fun m j => m ||| 2 ^ j ||| acc.getD j 0) m).testBit c = true → m.testBit c = true ∨ ∃ j ∈ l, c = j ∨ (acc.getD j 0).testBit c = true := by
  induction l with
  | nil => intro m h; exact .inl h
  | cons a l ih =>
    intro m h
    rw [List.foldl_cons] at h
    rcases ih _ h with h | ⟨j, hj, h⟩
    · simp only [Nat.testBit_or, Bool.or_eq_true] at h
      rcases h with (h | h) | h
      · exact .inl h
      · rw [Nat.testBit_two_pow] at h
        exact .inr ⟨a, List.mem_cons_self, .inl (by have := of_decide_eq_true h; exact this.symm)⟩
      · exact .inr ⟨a, List.mem_cons_self, .inr h⟩
    · exact .inr ⟨j, List.mem_cons_of_mem _ hj, h⟩
def Bits (preds : Nat → List Nat) (bs : List Nat) : Prop := ∀ i c, dep bs c i = true → ∃ j ∈ preds i, c = j ∨ (dep bs c j = true ∧ j < i)
theorem befGo_bits {preds : Nat → List Nat} (hlt : ∀ i j, j ∈ preds i → j < i) : ∀ (k : Nat) (acc : List Nat) (n : Nat), acc.length = n → Bits preds acc → Bits preds (befGo preds k acc n)
  | 0, acc, n, _, h => h
  | k + 1, acc, n, hl, h => by
    refine befGo_bits hlt k _ (n + 1) (by simp [hl]) fun i c hc => ?_
    have hold : ∀ i, i < n → (acc ++ [(preds n).foldl (fun m j => m ||| 2 ^ j ||| acc.getD j 0) 0]).getD i 0 = acc.getD i 0 := fun i hi => by
      simp [List.getD, List.getElem?_append_left (show i < acc.length by omega)]
    unfold dep at hc ⊢
    rcases Nat.lt_trichotomy i n with hi | hi | hi
    · rw [hold i hi] at hc
      obtain ⟨j, hj, h1⟩ := h i c hc
      refine ⟨j, hj, h1.imp id fun h2 => ⟨?_, h2.2⟩⟩
      rw [hold j (by omega)]; exact h2.1
    · subst hi
      have he : (acc ++ [(preds i).foldl (fun m j => m ||| 2 ^ j ||| acc.getD j 0) 0]).getD i 0 = (preds i).foldl (fun m j => m ||| 2 ^ j ||| acc.getD j 0) 0 := by
        rw [← hl]; simp [List.getD]
      rw [he] at hc
      rcases foldl_bit _ _ _ _ hc with h1 | ⟨j, hj, h1⟩
      · simp at h1
      · refine ⟨j, hj, h1.imp id fun h2 => ⟨?_, hlt i j hj⟩⟩
        rw [hold j (hlt i j hj)]; exact h2
    · rw [List.getD_eq_getElem?_getD, List.getElem?_eq_none (by simp; omega)] at hc
      simp at hc
theorem dep_listed {ops : Array Oper} {listed : Array Bool} {bs : List Nat} (hb : Bits (predsOf ops) bs) (hc : Closed ops listed) (hsz : listed.size = ops.size) : ∀ (n c i : Nat), i ≤ n → dep bs c i = true → (∀ j ∈ predsOf ops i, listed.getD j false = true) → listed.getD c false = true := by
  intro n
  induction n with
  | zero =>
    intro c i hi h hp
    obtain ⟨j, hj, rfl | ⟨_, hlt⟩⟩ := hb i c h
    · exact hp _ hj
    · omega
  | succ n ih =>
    intro c i hi h hp
    obtain ⟨j, hj, rfl | ⟨hd, hlt⟩⟩ := hb i c h
    · exact hp _ hj
    · have hlj := hp j hj
      have hjl : j < listed.size := by
        rcases Nat.lt_or_ge j listed.size with h | h
        · exact h
        · simp [Array.getElem?_eq_none h] at hlj
      refine ih c j (by omega) hd (hc j (by omega) ?_)
      simpa [hjl] using hlj
theorem okRow_mem {bs : List Nat} {k i : CO} {l2 : List CO} : ∀ {l1 : List CO} {mid : List Nat}, okRow xs bs k mid (l1 ++ i :: l2) = true → dep bs k.i i.i = true ∨ indep xs k i (mid ++ l1.map (·.i)) = true
  | [], mid, h => by
    simp only [List.nil_append, okRow, Bool.and_eq_true, Bool.or_eq_true] at h
    simpa using h.1
  | j :: l1, mid, h => by
    simp only [List.cons_append, okRow, Bool.and_eq_true] at h
    have := okRow_mem h.2
    simpa using this
theorem okPairs_pass {bs : List Nat} {i : CO} {l2 : List CO} : ∀ {l1 : List CO}, okPairs xs bs (l1 ++ i :: l2) = true → (∀ k ∈ l1, dep bs k.i i.i = false) → Pass xs i l1
  | [], _, _ => trivial
  | k :: l1, h, hd => by
    simp only [List.cons_append, okPairs, Bool.and_eq_true] at h
    refine ⟨?_, okPairs_pass h.2 (fun k' hk' => hd k' (List.mem_cons_of_mem _ hk'))⟩
    have := okRow_mem h.1
    rw [hd k List.mem_cons_self] at this
    simpa using this
theorem indep_mid {k i : CO} {mid mid' : List Nat} (h : indep xs k i mid = true) (hm : ∀ j, j ∈ mid → j ∈ mid' ∨ (clear (xs k.i).dst (xs j).reads = true ∧ unlike (xs k.i).dst (xs j).dst = true)) : indep xs k i mid' = true := by
  simp only [indep, Bool.and_eq_true] at h ⊢
  obtain ⟨⟨⟨⟨a1, a2⟩, a3⟩, a4⟩, hc⟩ := h
  refine ⟨⟨⟨⟨a1, a2⟩, a3⟩, ?_⟩, hc⟩
  rw [List.all_eq_true] at a4 ⊢
  intro j hj
  have := a4 j hj
  simp only [Bool.or_eq_true, beq_iff_eq, Bool.and_eq_true, List.contains_iff_mem] at this ⊢
  rcases this with (h | h) | h
  · exact .inl (.inl h)
  · rcases hm j h with h | h
    · exact .inl (.inr h)
    · exact .inr h
  · exact .inr h
theorem okRow_mid {bs : List Nat} {k : CO} : ∀ {l : List CO} {mid mid' : List Nat}, okRow xs bs k mid l = true → (∀ j, j ∈ mid → j ∈ mid' ∨ (clear (xs k.i).dst (xs j).reads = true ∧ unlike (xs k.i).dst (xs j).dst = true)) → okRow xs bs k mid' l = true
  | [], _, _, _, _ => rfl
  | i :: l, mid, mid', h, hm => by
    simp only [okRow, Bool.and_eq_true, Bool.or_eq_true] at h ⊢
    refine ⟨h.1.imp id (fun h => indep_mid h hm), okRow_mid h.2 fun j hj => ?_⟩
    rcases List.mem_append.1 hj with hj | hj
    · rcases hm j hj with h | h
      · exact .inl (List.mem_append_left _ h)
      · exact .inr h
    · exact .inl (List.mem_append_right _ hj)
theorem okRow_drop {bs : List Nat} {k i : CO} {l2 : List CO} (hap : clear (xs k.i).dst (xs i.i).reads = true ∧ unlike (xs k.i).dst (xs i.i).dst = true) : ∀ {l1 : List CO} {mid : List Nat}, okRow xs bs k mid (l1 ++ i :: l2) = true → okRow xs bs k mid (l1 ++ l2) = true
  | [], mid, h => by
    simp only [List.nil_append, okRow, Bool.and_eq_true] at h ⊢
    refine okRow_mid h.2 fun j hj => ?_
    rcases List.mem_append.1 hj with hj | hj
    · exact .inl hj
    · obtain rfl : j = i.i := by simpa using hj
      exact .inr hap
  | j :: l1, mid, h => by
    simp only [List.cons_append, okRow, Bool.and_eq_true] at h ⊢
    exact ⟨h.1, okRow_drop hap h.2⟩
theorem okPairs_drop {bs : List Nat} {i : CO} {l2 : List CO} : ∀ {l1 : List CO}, okPairs xs bs (l1 ++ i :: l2) = true → Pass xs i l1 → okPairs xs bs (l1 ++ l2) = true
  | [], h, _ => by simp only [List.nil_append, okPairs, Bool.and_eq_true] at h ⊢; exact h.2
  | k :: l1, h, hp => by
    simp only [List.cons_append, okPairs, Bool.and_eq_true] at h ⊢
    have hi := hp.1
    simp only [indep, Bool.and_eq_true] at hi
    exact ⟨okRow_drop ⟨hi.1.1.1.1, hi.1.1.2⟩ h.1, okPairs_drop h.2 hp.2⟩
theorem can_any {ops : Array Oper} {K : Fr → Hp → Prop} {bs : List Nat} (hbs : Bits (predsOf ops) bs) (hlt : ∀ i j, j ∈ predsOf ops i → j < i) : ∀ (fuel : Nat) (listed : Array Bool) (l : List CO), listed.size = ops.size → l.length ≤ fuel →
    (∀ i, i ∈ l.map (·.i) ↔ (i < ops.size ∧ listed.getD i true = false)) → (l.map (·.i)).Nodup → okPairs xs bs l = true → Closed ops listed → ∀ f s, can P xs K l f s → aAny P xs ops K fuel listed f s := by
  -- something is ready while something is left
  have hready : ∀ (listed : Array Bool) (l : List CO), listed.size = ops.size → (∀ i, i ∈ l.map (·.i) ↔ (i < ops.size ∧ listed.getD i true = false)) → Region.ready .any ops listed = [] → l = [] := fun listed l hsz hl hr => by
    cases l with
    | nil => rfl
    | cons c r =>
      exfalso
      have key : ∀ m i, i ≤ m → i < ops.size → listed.getD i true = false → ∃ j, j ∈ Region.ready .any ops listed := by
        intro m
        induction m with
        | zero =>
          intro i hi h1 h2
          refine ⟨i, ready_iff.2 ⟨h2, h1, fun j hj => ?_⟩⟩
          have := hlt i j hj; omega
        | succ m ih =>
          intro i hi h1 h2
          by_cases hall : ∀ j ∈ predsOf ops i, listed.getD j false = true
          · exact ⟨i, ready_iff.2 ⟨h2, h1, hall⟩⟩
          · simp only [Classical.not_forall] at hall
            obtain ⟨j, hj, hnot⟩ := hall
            have hji := hlt i j hj
            refine ih j (by omega) (by omega) ?_
            have hjl : j < listed.size := by omega
            cases hb : listed[j] with
            | true => exact absurd (by simp [hjl, hb]) hnot
            | false => simp [hjl, hb]
      obtain ⟨h1, h2⟩ := (hl c.i).1 (by simp)
      obtain ⟨j, hj⟩ := key c.i c.i (Nat.le_refl _) h1 h2
      rw [hr] at hj; cases hj
  intro fuel
  induction fuel with
  | zero =>
    intro listed l hsz hlen hl _ _ _ f s h
    have : l = [] := List.eq_nil_of_length_eq_zero (by omega)
    subst this
    refine ⟨?_, h⟩
    cases hr : Region.ready .any ops listed with
    | nil => rfl
    | cons i r =>
      exfalso
      have hi : i ∈ Region.ready .any ops listed := by rw [hr]; simp
      obtain ⟨h1, h2, _⟩ := ready_iff.1 hi
      have := (hl i).2 ⟨h2, h1⟩
      simp at this
  | succ fuel ih =>
    intro listed l hsz hlen hl hnd hok hcl f s h
    refine ⟨fun hr => ?_, fun i hi => ?_⟩
    · have := hready listed l hsz hl hr
      subst this
      exact h
    · obtain ⟨h1, h2, h3⟩ := ready_iff.1 hi
      have hmem := (hl i).2 ⟨h2, h1⟩
      obtain ⟨c, hc, rfl⟩ := List.mem_map.1 hmem
      obtain ⟨l1, l2, rfl⟩ := List.append_of_mem hc
      have hnd' : (l1.map (·.i) ++ c.i :: l2.map (·.i)).Nodup := by simpa using hnd
      have hnd1 : (l1.map (·.i)).Nodup := (List.nodup_append.1 hnd').1
      have hind : Pass xs c l1 := okPairs_pass hok fun k hk => by
        cases hd : dep bs k.i c.i with
        | false => rfl
        | true =>
          exfalso
          have hlk := dep_listed hbs hcl hsz c.i k.i c.i (Nat.le_refl _) hd h3
          have hk' := ((hl k.i).1 (by simp; exact .inl ⟨k, hk, rfl⟩)).2
          have : k.i < listed.size := by
            rcases Nat.lt_or_ge k.i listed.size with h | h
            · exact h
            · simp [Array.getElem?_eq_none h] at hlk
          simp [this] at hlk hk'
          rw [hlk] at hk'; cases hk'
      have hb := bubble (K := K) c l2 l1 hind hnd1 f s h
      refine T_mono (fun f' s' hh => ?_) hb
      refine ih (listed.setIfInBounds c.i true) (l1 ++ l2) (by simp [hsz]) (by simp at hlen ⊢; omega) (fun j => ?_) ?_ (okPairs_drop hok hind) ?_ f' s' hh.2
      · have hnotin : c.i ∉ (l1 ++ l2).map (·.i) := by
          have := List.nodup_append.1 hnd'
          simp only [List.map_append, List.mem_append, not_or]
          refine ⟨fun hx => this.2.2 _ hx _ List.mem_cons_self rfl, (List.nodup_cons.1 this.2.1).1⟩
        by_cases hjc : c.i = j
        · subst hjc
          constructor
          · intro hx; exact absurd hx hnotin
          · rintro ⟨q1, q2⟩
            have : c.i < listed.size := by omega
            simp [this] at q2
        · rw [getD_set_ne true hjc, ← hl j]
          simp only [List.map_append, List.map_cons, List.mem_append, List.mem_cons]
          constructor
          · rintro (q | q)
            · exact .inl q
            · exact .inr (.inr q)
          · rintro (q | rfl | q)
            · exact .inl q
            · exact absurd rfl hjc
            · exact .inr q
      · have := List.nodup_append.1 hnd'
        rw [List.map_append, List.nodup_append]
        refine ⟨hnd1, (List.nodup_cons.1 this.2.1).2, fun a ha b hb => this.2.2 a ha b (List.mem_cons_of_mem _ hb)⟩
      · intro j hj hlj k hk
        by_cases hjc : c.i = j
        · subst hjc; exact getD_set_true (h3 k hk)
        · rw [getD_set_ne true hjc] at hlj
          exact getD_set_true (hcl j hj hlj k hk)
end
end Go.Av
namespace Go.Av
open Go
inductive Ex where
  | norm
  | exit (id : Nat)
  | ret
inductive ACode where
  | skip
  | plain (ops : List AOper)
  | draw (ops : List AOper) (order : List CO)
  | seq (a b : ACode)
  | cond (c : Operand) (a b : ACode)
  | block (id : Nat) (a : ACode)
  | loop (a : ACode)
  | exit (id : Nat)
  | ret
  | refuse
def nth (xs : List AOper) (i : Nat) : AOper := xs.getD i { dst := none, op := .mv (.const (.bool true)), guard := none }
def seqK (n : Fr → Hp → Prop) (K : Ex → Fr → Hp → Prop) : Ex → Fr → Hp → Prop
  | .norm => n
  | e => K e
def blockK (id : Nat) (K : Ex → Fr → Hp → Prop) : Ex → Fr → Hp → Prop
  | .exit j => if j = id then K .norm else K (.exit j)
  | e => K e
def awp (P : Ctx) : ACode → (Ex → Fr → Hp → Prop) → Fr → Hp → Prop
  | .skip, K => K .norm
  | .plain ops, K => runL P ops (K .norm)
  | .draw ops order, K => can P (nth ops) (K .norm) order
  | .seq a b, K => awp P a (seqK (awp P b K) K)
  | .cond c a b, K => fun f s => match ev f c with
    | .v (.bool t) => (t = true → awp P a K f s) ∧ (t = false → awp P b K f s)
    | _ => False
  | .block id a, K => awp P a (blockK id K)
  | .loop a, K => fun f s => ∃ (I : Fr → Hp → Prop) (m : Fr → Hp → Nat), I f s ∧ ∀ f s, I f s → awp P a (seqK (fun f' s' => I f' s' ∧ m f' s' < m f s) K) f s
  | .exit id, K => K (.exit id)
  | .ret, K => K .ret
  | .refuse, _ => fun _ _ => False
def prepGuard (ops : Array Oper) (o : Oper) : Option (Option (Nat × Bool)) :=
  match o.guard with
  | none => some none
  | some (j, want) => match (ops[j]?).bind (·.dst) with
    | some g => some (some (g, want))
    | none => none
def dstOk (n : Nat) : Option Nat → Bool
  | some d => decide (d < n)
  | none => true
def pinOk (l : List Nat) : Option Nat → Bool
  | some d => !l.contains d
  | none => true
def prepOper (P : Program) (env : Env) (n : Nat) (ops : Array Oper) (o : Oper) : Option AOper :=
  match prepOp P env o, prepGuard ops o with
  | some ao, some g => if dstOk n o.dst = true ∧ pinOk env.pins o.dst = true then some { dst := o.dst, op := ao, guard := g } else none
  | _, _ => none
def mapAll {α β : Type} (f : α → Option β) : List α → Option (List β)
  | [] => some []
  | x :: r => match f x, mapAll f r with
    | some y, some ys => some (y :: ys)
    | _, _ => none
def pickIn (preds : Nat → List Nat) (done : List Nat) (p : Nat → Bool) (left : List Nat) : Option Nat := left.find? fun i => (preds i).all (fun j => done.contains j) && p i
def orderGo (preds : Nat → List Nat) (xs : Nat → AOper) : Nat → List Nat → List Nat → List Nat
  | 0, _, _ => []
  | fuel + 1, done, left =>
    match (pickIn preds done (fun i => isPure (xs i).op || isLoad (xs i).op) left).or ((pickIn preds done (fun i => !isAdder (xs i).op) left).or (pickIn preds done (fun _ => true) left)) with
    | some i => i :: orderGo preds xs fuel (i :: done) (left.filter (· != i))
    | none => []
def isReader (x : AOper) : Bool := isPure x.op || isLoad x.op
def marks (xs : Nat → AOper) (dp : Nat → Nat → Bool) : List Nat → List Nat → List CO
  | _, [] => []
  | ahead, i :: r =>
    let pre := if isReader (xs i) then [] else r.filter fun j => (isAdder (xs j).op || isPure (xs j).op) && !dp i j
    let chk := if isReader (xs i) || isAdder (xs i).op then [] else ahead.filter fun j => isLoad (xs j).op && !dp j i
    ⟨i, pre, chk⟩ :: marks xs dp (ahead ++ [i]) r
def canonOf (ops : Array Oper) (xs : Nat → AOper) : List CO :=
  marks xs (dep (befGo (predsOf ops) ops.size [] 0)) [] (orderGo (predsOf ops) xs ops.size [] (List.range ops.size))
def okOrder (ops : Array Oper) (xs : Nat → AOper) (l : List CO) : Bool :=
  (List.range ops.size).all (fun i => (predsOf ops i).all (fun j => decide (j < i))) && decide (l.length ≤ ops.size) && (List.range ops.size).all (fun i => (l.map (·.i)).contains i) && l.all (fun c => decide (c.i < ops.size)) &&
    decide ((l.map (·.i)).Nodup) && okPairs xs (befGo (predsOf ops) ops.size [] 0) l
def opsIn : Code → List Oper
  | .region _ ops _ => ops.toList
  | .seq a b | .cond _ a b => opsIn a ++ opsIn b
  | .block _ a | .loop a => opsIn a
  | _ => []
def isTmpIn (l : List Nat) : Operand → Bool
  | .tmp u => l.contains u
  | _ => false
def derive (l : List Nat) : List Oper → List Nat
  | [] => l
  | o :: r => match o.op, o.dst with
    | .fieldAddr _ x _, some d | .indexAddr _ x _, some d | .nilCheck x, some d => derive (if isTmpIn l x then d :: l else l) r
    | _, _ => derive l r
def harms (l : List Nat) (o : Oper) : Bool :=
  match o.op with
  | .fieldAddr _ _ _ | .indexAddr _ _ _ | .nilCheck _ | .load _ _ | .slice _ _ _ _ _ => false
  | op => op.operands.toList.any (isTmpIn l)
def slices (l : List Nat) (o : Oper) : Bool :=
  match o.op with
  | .slice _ x _ _ _ => isTmpIn l x
  | _ => false
def mutStep (l : List Nat) (o : Oper) : List Nat :=
  let add (l : List Nat) (x : Operand) : List Nat := match x with | .tmp u => if l.contains u then l else u :: l | _ => l
  let both (x : Operand) : List Nat := match o.dst with
    | some d => if l.contains d then add l x else if isTmpIn l x then (if l.contains d then l else d :: l) else l
    | none => l
  match o.op with
  | .move x | .assign x => both x
  | .slice _ x _ _ _ => both x
  | .call c => match c.callee, c.args.toList with
    | .builtin .append, [x, _] => both x
    | _, _ => l
  | _ => l
def mutGo (ops : List Oper) : Nat → List Nat → List Nat
  | 0, l => l
  | n + 1, l => let l' := ops.foldl mutStep l; if l'.length = l.length then l else mutGo ops n l'
def mutSeeds (P : Program) (ops : List Oper) : List Nat :=
  ops.filterMap fun o => match o.op, o.dst with
    | .indexAddr t (.tmp u) _, some d => if !(match P.underlying t with | some (.slice _) => true | _ => false) then none else let l := derive [d] ops; if ops.any (fun p => match p.op with | .store _ a _ => isTmpIn l a | _ => false) then some u else none
    | _, _ => none
def strMut (P : Program) (l : List Nat) (o : Oper) : Bool :=
  match o.op, o.dst with
  | .convert st _ _, some d => (match P.underlying st with | some .string => true | _ => false) && l.contains d
  | _, _ => false
def envOf (P : Program) (c : Code) : Env :=
  let ops := opsIn c
  let boxes := (ops.filterMap fun o => match o.op with | .box _ _ => o.dst | _ => none).filter fun t => let l := derive [t] ops; ops.any (slices l) && !ops.any (harms l)
  { roB := boxes, roD := derive boxes ops, wr := ops.filterMap fun o => match o.op with | .call c => (match c.callee, c.args.toList with | .builtin .copy, .tmp u :: _ => some u | _, _ => none) | _ => none, mu := mutGo ops 40 (mutSeeds P ops), ty := false, sx := ops.any (strMut P (mutGo ops 40 (mutSeeds P ops))) }
def prepCode (P : Program) (env : Env) (n : Nat) : Code → Option ACode
  | .skip => some .skip
  | .region _ ops false => match mapAll (prepOper P env n ops) ops.toList with
    | some xs => some (.plain xs)
    | none => if env.rf = true then some .refuse else none
  | .region _ ops true => match mapAll (prepOper P env n ops) ops.toList with
    | some xs => if okOrder ops (nth xs) (canonOf ops (nth xs)) = true then some (.draw xs (canonOf ops (nth xs))) else none
    | none => none
  | .seq a b => match prepCode P env n a, prepCode P env n b with
    | some x, some y => some (.seq x y)
    | _, _ => none
  | .cond c a b => match prepCode P env n a, prepCode P env n b with
    | some x, some y => if opOk c = true then some (.cond c x y) else none
    | _, _ => none
  | .block id a => (prepCode P env n a).map (.block id)
  | .loop a => (prepCode P env n a).map .loop
  | .exit id => some (.exit id)
  | .ret => some .ret
  | .refuse _ => some .refuse
  | _ => none
def DP (D : List Deferred × List (Nat × Value)) (a : Act) : Prop := a.defers = D.1 ∧ ∀ p ∈ D.2, a.tmps.getD p.1 undef = p.2
theorem DP.put {D : List Deferred × List (Nat × Value)} {a : Act} (h : DP D a) {d : Option Nat} {v : Value} {l : List Nat} (hl : ∀ p ∈ D.2, p.1 ∈ l) (hd : pinOk l d = true) : DP D (a.put d v) := by
  refine ⟨by rw [← h.1]; cases d <;> rfl, fun p hp => ?_⟩
  cases d with
  | none => exact h.2 p hp
  | some d =>
    have hne : p.1 ≠ d := by
      rintro rfl
      simp only [pinOk, Bool.not_eq_true', List.contains_eq_mem, decide_eq_false_iff_not] at hd
      exact hd (hl p hp)
    rw [← h.2 p hp]
    simp only [Act.put]
    rw [Array.getD_eq_getD_getElem?, Array.getD_eq_getD_getElem?, Array.getElem?_setIfInBounds_ne (Ne.symm hne)]
def Sim (D : List Deferred × List (Nat × Value)) (n : Nat) (H0 : PH) (s0 : Hp) (w0 : World) (f : Fr) (s : Hp) (a : Act) (w : World) : Prop :=
  a.tmps.size = n ∧ DP D a ∧ ∃ H, FRel H a f ∧ Step H0 s0 w0 H s w
def post (D : List Deferred × List (Nat × Value)) (kp : AV → Hp → Prop) (n : Nat) (H0 : PH) (s0 : Hp) (w0 : World) (K : Ex → Fr → Hp → Prop) : Exit → Act → World → Prop
  | .normal, a, w => ∃ f s, Sim D n H0 s0 w0 f s a w ∧ K .norm f s
  | .exit id, a, w => ∃ f s, Sim D n H0 s0 w0 f s a w ∧ K (.exit id) f s
  | .ret, a, w => ∃ f s, Sim D n H0 s0 w0 f s a w ∧ K .ret f s
  | .panic ch, a, w => DP D a ∧ ∃ v r H' s', ch = [{ v, recovered := false }] ∧ Step H0 s0 w0 H' s' w ∧ RV H' v r ∧ up kp r s' ∧ ∃ f, FRel H' a f
  | _, _, _ => False
section
variable {P : Program} {kp : AV → Hp → Prop} {env : Env} {n : Nat} {H0 : PH} {s0 : Hp} {w0 : World} {D : List Deferred × List (Nat × Value)}
theorem size_put (a : Act) (d : Option Nat) (v : Value) : (a.put d v).tmps.size = a.tmps.size := by cases d <;> simp [Act.put]
theorem mapAll_some {α β : Type} {g : α → Option β} : ∀ {l : List α} {ys : List β}, mapAll g l = some ys → l.length = ys.length ∧ ∀ (j : Nat) (x : α), l[j]? = some x → ∃ y, ys[j]? = some y ∧ g x = some y
  | [], ys, h => by simp only [mapAll, Option.some.injEq] at h; subst h; exact ⟨rfl, fun j x h => by simp at h⟩
  | x :: r, ys, h => by
    simp only [mapAll] at h
    split at h
    case h_2 => cases h
    rename_i y ys' hy hys
    obtain rfl := Option.some.inj h
    obtain ⟨h1, h2⟩ := mapAll_some hys
    refine ⟨by simp [h1], fun j x' hx => ?_⟩
    match j, hx with
    | 0, hx =>
      obtain rfl : x = x' := by simpa using hx
      exact ⟨y, rfl, hy⟩
    | j + 1, hx => exact h2 j x' (by simpa using hx)
theorem guard_wanted {ops : Array Oper} {o : Oper} {gd : Option (Nat × Bool)} (h : prepGuard ops o = some gd) {H : PH} {a : Act} {f : Fr} (hf : FRel H a f) :
    match gd with
    | none => Region.wanted o (yielded ops a.tmps) = true
    | some (g, want) => (∀ b, f g = .v (.bool b) → Region.wanted o (yielded ops a.tmps) = (b == want)) ∧ (f g = .tup [] → Region.wanted o (yielded ops a.tmps) = false) := by
  unfold prepGuard at h
  split at h
  · rename_i hg
    obtain rfl := Option.some.inj h
    simp [Region.wanted, hg]
  · rename_i j want hg
    split at h
    case h_2 => cases h
    rename_i g hd
    obtain rfl := Option.some.inj h
    have hv := hf g
    refine ⟨fun b hb => ?_, fun hb => ?_⟩
    · rw [hb] at hv
      have hval := hv.ev_v
      have hsome : a.tmps[g]? = some (.bool b) := by
        rw [Array.getD_eq_getD_getElem?] at hval
        cases hx : a.tmps[g]? with
        | none => rw [hx] at hval; cases hval
        | some x => rw [hx] at hval; simpa using hval
      have hy : yielded ops a.tmps j = some b := by simp [yielded, hd, hsome]
      simp [Region.wanted, hg, hy]
    · rw [hb] at hv
      have hnone : yielded ops a.tmps j = none := by
        unfold yielded
        rw [hd]
        simp only [Option.bind_some]
        cases hx : a.tmps[g]? with
        | none => rfl
        | some x =>
          rw [Array.getD_eq_getD_getElem?, hx] at hv
          simp only [Option.getD_some] at hv
          cases hv; rfl
      simp [Region.wanted, hg, hnone]
theorem oper_sound (hpin : ∀ p ∈ D.2, p.1 ∈ env.pins) {ops : Array Oper} {o : Oper} {x : AOper} (h : prepOper P env n ops o = some x) {f : Fr} {s : Hp} {a : Act} {w : World} (hs : Sim D n H0 s0 w0 f s a w) {K : Fr → Hp → Prop} (hT : T ⟨P, kp⟩ x K f s) (Q : Exit → Act → World → Prop) (hQp : ∀ v r H' s' w', (∃ f, FRel H' a f) → Step H0 s0 w0 H' s' w' → RV H' v r → up kp r s' → Q (.panic [{ v, recovered := false }]) a w') :
    if Region.wanted o (yielded ops a.tmps) then o.wp P a w (fun a' w' => ∃ f' s', Sim D n H0 s0 w0 f' s' a' w' ∧ K f' s') Q else ∃ f' s', Sim D n H0 s0 w0 f' s' (a.put o.dst undef) w ∧ K f' s' := by
  obtain ⟨hsz, hdf, H, hf, hst⟩ := hs
  unfold prepOper at h
  split at h
  case h_2 => cases h
  rename_i ao gd hao hgd
  split at h
  case isFalse => cases h
  rename_i hlt
  obtain rfl := Option.some.inj h
  have hd : ∀ t, o.dst = some t → t < a.tmps.size := fun t ht => by have := hlt.1; rw [ht] at this; rw [hsz]; simpa [dstOk] using this
  have hw := guard_wanted hgd hf
  have run : G ⟨P, kp⟩ ao f s (fun r s' => K (putF f o.dst r) s') → o.wp P a w (fun a' w' => ∃ f' s', Sim D n H0 s0 w0 f' s' a' w' ∧ K f' s') Q := fun hG => by
    have := prepOp_sound hao hf hst.holds hG Q (fun v r H' s' w' h1 h2 h3 => hQp v r H' s' w' ⟨f, hf.mono h1.le⟩ (hst.trans h1) h2 h3)
    refine Oper.wp_mono (fun a' w' hh => ?_) this
    obtain ⟨v, H', s', r, rfl, hst', hv, hK⟩ := hh
    exact ⟨putF f o.dst r, s', ⟨by rw [size_put]; exact hsz, hdf.put hpin hlt.2, H', (hf.mono hst'.le).put o.dst hd hv, hst.trans hst'⟩, hK⟩
  have skp : K (putF f o.dst (.tup [])) s → ∃ f' s', Sim D n H0 s0 w0 f' s' (a.put o.dst undef) w ∧ K f' s' := fun hK =>
    ⟨putF f o.dst (.tup []), s, ⟨by rw [size_put]; exact hsz, hdf.put hpin hlt.2, H, hf.put o.dst hd (RV.undef H), hst⟩, hK⟩
  unfold T E at hT
  cases gd with
  | none =>
    simp only at hT hw
    rw [if_pos hw]
    exact run hT
  | some gw =>
    obtain ⟨g, want⟩ := gw
    simp only at hT hw
    split at hT
    · rename_i b hb
      have hwb := hw.1 b hb
      split at hT
      · rename_i hbw; rw [if_pos (by rw [hwb]; simp [hbw])]; exact run hT
      · rename_i hbw; rw [if_neg (by rw [hwb]; simp [hbw])]; exact skp hT
    · rename_i hb
      rw [if_neg (by rw [hw.2 hb]; simp)]
      exact skp hT
    · exact hT.elim
theorem runL_sound (hpin : ∀ p ∈ D.2, p.1 ∈ env.pins) {ops : Array Oper} {Q : Exit → Act → World → Prop} {K : Fr → Hp → Prop} (hQ : ∀ f s a w, Sim D n H0 s0 w0 f s a w → K f s → Q .normal a w) (hQp : ∀ a v r H' s' w', (DP D a ∧ ∃ f, FRel H' a f) → Step H0 s0 w0 H' s' w' → RV H' v r → up kp r s' → Q (.panic [{ v, recovered := false }]) a w') : ∀ (l : List Oper) (ys : List AOper), mapAll (prepOper P env n ops) l = some ys →
    ∀ (f : Fr) (s : Hp) (a : Act) (w : World), Sim D n H0 s0 w0 f s a w → runL ⟨P, kp⟩ ys K f s → wpList P ops Q l a w
  | [], ys, h, f, s, a, w, hs, hr => by
    simp only [mapAll, Option.some.injEq] at h; subst h
    exact hQ f s a w hs hr
  | o :: l, ys, h, f, s, a, w, hs, hr => by
    simp only [mapAll] at h
    split at h
    case h_2 => cases h
    rename_i y ys' hy hys
    obtain rfl := Option.some.inj h
    have ih := runL_sound hpin hQ hQp l ys' hys
    have := oper_sound hpin hy hs hr Q (fun v r H' s' w' hg => hQp a v r H' s' w' ⟨hs.2.1, hg⟩)
    simp only [wpList]
    split
    · rename_i hw
      rw [if_pos hw] at this
      exact .inl (Oper.wp_mono (fun a' w' ⟨f', s', hs', hr'⟩ => ih f' s' a' w' hs' hr') this)
    · rename_i hw
      rw [if_neg hw] at this
      obtain ⟨f', s', hs', hr'⟩ := this
      exact ih f' s' _ w hs' hr'
theorem aAny_sound (hpin : ∀ p ∈ D.2, p.1 ∈ env.pins) {ops : Array Oper} {Q : Exit → Act → World → Prop} {K : Fr → Hp → Prop} (hQ : ∀ f s a w, Sim D n H0 s0 w0 f s a w → K f s → Q .normal a w) (hQp : ∀ a v r H' s' w', (DP D a ∧ ∃ f, FRel H' a f) → Step H0 s0 w0 H' s' w' → RV H' v r → up kp r s' → Q (.panic [{ v, recovered := false }]) a w') {ys : List AOper} (h : mapAll (prepOper P env n ops) ops.toList = some ys) :
    ∀ (fuel : Nat) (listed : Array Bool) (f : Fr) (s : Hp) (a : Act) (w : World), Sim D n H0 s0 w0 f s a w → aAny ⟨P, kp⟩ (nth ys) ops K fuel listed f s → wpAny P .any ops Q fuel listed a w
  | 0, listed, f, s, a, w, hs, hr => ⟨hr.1, hQ f s a w hs hr.2⟩
  | fuel + 1, listed, f, s, a, w, hs, hr => by
    refine ⟨fun h0 => hQ f s a w hs (hr.1 h0), fun i hi => ?_⟩
    have hT := hr.2 i hi
    obtain ⟨_, o, ho, _⟩ := mem_ready.1 hi
    obtain ⟨y, hy1, hy2⟩ := (mapAll_some h).2 i o (by simpa using ho)
    have hy : nth ys i = y := by simp [nth, List.getD, hy1]
    rw [hy] at hT
    have := oper_sound hpin hy2 hs hT Q (fun v r H' s' w' hg => hQp a v r H' s' w' ⟨hs.2.1, hg⟩)
    unfold wpOp
    simp only [ho]
    split
    · rename_i hw
      rw [if_pos hw] at this
      exact .inl (Oper.wp_mono (fun a' w' ⟨f', s', hs', hr'⟩ => aAny_sound hpin hQ hQp h fuel _ f' s' a' w' hs' hr') this)
    · rename_i hw
      rw [if_neg hw] at this
      obtain ⟨f', s', hs', hr'⟩ := this
      exact aAny_sound hpin hQ hQp h fuel _ f' s' _ w hs' hr'
theorem okOrder_any {P : Ctx} {ops : Array Oper} {xs : Nat → AOper} {l : List CO} (h : okOrder ops xs l = true) {K : Fr → Hp → Prop} {f : Fr} {s : Hp} (hc : can P xs K l f s) : aAny P xs ops K ops.size (Array.replicate ops.size false) f s := by
  simp only [okOrder, Bool.and_eq_true, List.all_eq_true, decide_eq_true_eq, List.mem_range] at h
  obtain ⟨⟨⟨⟨⟨h1, h2⟩, h2'⟩, h3⟩, h4⟩, h5⟩ := h
  have hlt : ∀ i j, j ∈ predsOf ops i → j < i := fun i j hj => by
    have hi : i < ops.size := by
      obtain ⟨o, ho, _⟩ := mem_preds.1 hj
      exact (Array.getElem?_eq_some_iff.1 ho).1
    exact h1 i hi j hj
  refine can_any (befGo_bits hlt ops.size [] 0 rfl (fun i c h => by simp [dep] at h)) hlt ops.size _ l (by simp) (by omega) (fun i => ?_) h4 h5 (fun i hi hl => ?_) f s hc
  · constructor
    · intro hi
      obtain ⟨c, hc, rfl⟩ := List.mem_map.1 hi
      have := h3 c hc
      exact ⟨this, by simp [this]⟩
    · rintro ⟨hi, _⟩
      simpa using h2' i hi
  · simp [hi] at hl
theorem awp_sound (hm : P.follows .mixedOrders = true) (hpin : ∀ p ∈ D.2, p.1 ∈ env.pins) : ∀ (c : Code) (x : ACode), prepCode P env n c = some x → ∀ (K : Ex → Fr → Hp → Prop) (f : Fr) (s : Hp) (a : Act) (w : World), Sim D n H0 s0 w0 f s a w → awp ⟨P, kp⟩ x K f s → c.wp P (post D kp n H0 s0 w0 K) a w
  | .skip, x, h, K, f, s, a, w, hs, ha => by
    simp only [prepCode, Option.some.injEq] at h; subst h
    exact wp_skip ⟨f, s, hs, ha⟩
  | .region id ops d, x, h, K, f, s, a, w, hs, ha => by
    cases d with
    | false =>
      simp only [prepCode] at h
      split at h
      case h_2 =>
        split at h
        · obtain rfl := Option.some.inj h
          exact ha.elim
        · cases h
      rename_i ys hys
      obtain rfl := Option.some.inj h
      refine wp_region_list ?_
      exact runL_sound hpin (K := K .norm) (fun f s a w hs hK => ⟨f, s, hs, hK⟩) (fun a v r H' s' w' h1 h2 h3 h4 => ⟨h1.1, v, r, H', s', rfl, h2, h3, h4, h1.2⟩) ops.toList ys hys f s a w hs ha
    | true =>
      simp only [prepCode] at h
      split at h
      case h_2 => cases h
      rename_i ys hys
      split at h
      case isFalse => cases h
      rename_i hok
      obtain rfl := Option.some.inj h
      refine wp_region_any hm ?_
      obtain ⟨hsz, hdf, H, hf, hst⟩ := hs
      exact aAny_sound hpin (K := K .norm) (fun f s a w hs hK => ⟨f, s, hs, hK⟩) (fun a v r H' s' w' h1 h2 h3 h4 => ⟨h1.1, v, r, H', s', rfl, h2, h3, h4, h1.2⟩) hys ops.size _ f s a _ ⟨hsz, hdf, H, hf, hst.trans (Step.drew hst.holds)⟩ (okOrder_any hok ha)
  | .seq c1 c2, x, h, K, f, s, a, w, hs, ha => by
    simp only [prepCode] at h
    split at h
    case h_2 => cases h
    rename_i x1 x2 h1 h2
    obtain rfl := Option.some.inj h
    refine wp_seq (wp_mono (awp_sound hm hpin c1 x1 h1 _ f s a w hs ha) fun e a' w' hq => ?_)
    cases e with
    | normal => obtain ⟨f', s', hs', hK⟩ := hq; exact awp_sound hm hpin c2 x2 h2 K f' s' a' w' hs' hK
    | exit id => exact hq
    | ret => exact hq
    | goto l => exact hq
    | panic ch => exact hq
    | outgrown => exact hq
  | .cond c c1 c2, x, h, K, f, s, a, w, hs, ha => by
    simp only [prepCode] at h
    split at h
    case h_2 => cases h
    rename_i x1 x2 h1 h2
    split at h
    case isFalse => cases h
    rename_i hc
    obtain rfl := Option.some.inj h
    simp only [awp] at ha
    split at ha
    case h_2 => exact ha.elim
    rename_i t he
    have hv := (hs.2.2.choose_spec.1).ev c hc
    rw [he] at hv
    refine wp_cond_split hv.ev_v (fun ht => ?_) (fun ht => ?_)
    · exact awp_sound hm hpin c1 x1 h1 K f s a w hs (ha.1 ht)
    · exact awp_sound hm hpin c2 x2 h2 K f s a w hs (ha.2 ht)
  | .block id c, x, h, K, f, s, a, w, hs, ha => by
    simp only [prepCode] at h
    obtain ⟨y, hy, rfl⟩ := Option.map_eq_some_iff.1 h
    refine wp_block (wp_mono (awp_sound hm hpin c y hy _ f s a w hs ha) fun e a' w' hq => ?_)
    cases e with
    | normal => exact hq
    | exit id' =>
      obtain ⟨f', s', hs', hK⟩ := hq
      simp only [Exit.inBlock]
      simp only [blockK] at hK
      split
      · rename_i hid; rw [if_pos hid] at hK; exact ⟨f', s', hs', hK⟩
      · rename_i hid; rw [if_neg hid] at hK; exact ⟨f', s', hs', hK⟩
    | ret => exact hq
    | goto l => exact hq
    | panic ch => exact hq
    | outgrown => exact hq
  | .loop c, x, h, K, f, s, a, w, hs, ha => by
    simp only [prepCode] at h
    obtain ⟨y, hy, rfl⟩ := Option.map_eq_some_iff.1 h
    obtain ⟨I, m, hI, hround⟩ := ha
    -- the loop, by the measure
    intro b k cs
    have key : ∀ N f s a w, m f s = N → I f s → Sim D n H0 s0 w0 f s a w →
        ∃ e a' w', post D kp n H0 s0 w0 K e a' w' ∧ Arrives P (lone (b.at a (.code c :: .inLoop c :: k)) cs w) b k cs e a' w' := by
      intro N
      induction N using Nat.strongRecOn with
      | _ N ih =>
        intro f s a w hN hI hs
        obtain ⟨e, a1, w1, hq, harr⟩ := awp_sound hm hpin c y hy _ f s a w hs (hround f s hI) b (.inLoop c :: k) cs
        cases e with
        | normal =>
          obtain ⟨f', s', hs', hI', hlt⟩ := hq
          obtain ⟨e2, a2, w2, hq2, harr2⟩ := ih (m f' s') (hN ▸ hlt) f' s' a1 w1 rfl hI' hs'
          exact ⟨e2, a2, w2, hq2, .of_steps (Steps.trans harr (.one step_inLoop)) harr2⟩
        | exit id => exact ⟨.exit id, a1, w1, hq, .pass (x := .inLoop c) rfl (fun _ _ => .inl (by simp)) harr⟩
        | goto l => exact hq.elim
        | ret => exact ⟨.ret, a1, w1, hq, .pass (x := .inLoop c) rfl (fun _ _ => .inl (by simp)) harr⟩
        | panic ch => exact ⟨.panic ch, a1, w1, hq, .pass (x := .inLoop c) rfl (fun _ _ => .inl (by simp)) harr⟩
        | outgrown => exact hq.elim
    obtain ⟨e, a', w', hq, harr⟩ := key _ f s a w rfl hI hs
    exact ⟨e, a', w', hq, .of_steps (.one step_loop) harr⟩
  | .exit id, x, h, K, f, s, a, w, hs, ha => by
    simp only [prepCode, Option.some.injEq] at h; subst h
    exact wp_exit ⟨f, s, hs, ha⟩
  | .ret, x, h, K, f, s, a, w, hs, ha => by
    simp only [prepCode, Option.some.injEq] at h; subst h
    exact wp_ret ⟨f, s, hs, ha⟩
  | .refuse why, x, h, K, f, s, a, w, hs, ha => by
    simp only [prepCode, Option.some.injEq] at h; subst h
    exact ha.elim
structure AFunc where
  ntmps : Nat
  nparams : Nat
  code : ACode
  results : List (Nat × Option (Bool × Nat))
def prepRes (P : Program) : ResultVar → Option (Nat × Option (Bool × Nat))
  | .tmp t => some (t, none)
  | .cell a t => match P.underlying t, szOf P t with
    | some d, some n => if d.isRow = true ∨ n = 1 then some (a, some (d.isRow, n)) else none
    | _, _ => none
def Env.all (env : Env) (m : Nat) (n : Nat) : Env :=
  match m with
  | 1 => { env with mu := List.range n }
  | 2 => { env with ty := true }
  | 5 => { env with rf := true }
  | _ => env
def prepFunc (P : Program) (m : Nat) (f : FuncId) : Option AFunc :=
  match P.funcs[f]? with
  | some fn => match fn.body with
    | some c => match prepCode P ((envOf P c).all m fn.ntmps) fn.ntmps c, mapAll (prepRes P) fn.results.toList with
      | some x, some rs => if fn.params.size ≤ fn.ntmps then some ⟨fn.ntmps, fn.params.size, x, rs⟩ else none
      | _, _ => none
    | none => none
  | none => none
def resG (f : Fr) (s : Hp) : Nat × Option (Bool × Nat) → Option AV
  | (t, none) => some (f t)
  | (t, some (agg, n)) => match f t with
    | .ptr l off => match s.read l with
      | some cs => if off + n ≤ cs.length then some (mkv agg n (cs.drop off)) else none
      | none => none
    | _ => none
def resAll (f : Fr) (s : Hp) (rs : List (Nat × Option (Bool × Nat))) : Option AV :=
  match mapAll (resG f s) rs with
  | some [r] => some r
  | some vs => some (.tup vs)
  | none => none
def postF (F : AFunc) (R : AV → Hp → Prop) : Ex → Fr → Hp → Prop
  | .exit _, _, _ => False
  | _, f, s => ∃ r s', resAll f s F.results = some r ∧ s'.sub s ∧ R r s'
def initF (args : List AV) : Fr := fun t => args.getD t (.tup [])
def resOf (tmps : Array Value) : ResultVar → Sem Value
  | .tmp t => pure (tmps.getD t undef)
  | .cell a t => do loadVar t (← asAddr (tmps.getD a undef))
theorem run_res {H : PH} {f : Fr} {s : Hp} {a : Act} {w : World} {rv : ResultVar} {p : Nat × Option (Bool × Nat)} (hf : RV H (a.tmps.getD p.1 undef) (f p.1)) (hh : Holds H s w) (hp : prepRes P rv = some p) {r : AV} (hr : resG f s p = some r) :
    ∃ v, (resOf a.tmps rv).run P w = .ok v w ∧ RV H v r := by
  cases rv with
  | tmp t =>
    simp only [prepRes, Option.some.injEq] at hp; subst hp
    simp only [resG, Option.some.injEq] at hr; subst hr
    exact ⟨_, rfl, hf⟩
  | cell b t =>
    simp only [prepRes] at hp
    split at hp
    case h_2 => cases hp
    rename_i d n hu hn
    split at hp
    case isFalse => cases hp
    rename_i hrow
    obtain rfl := Option.some.inj hp
    simp only [resG] at hr
    split at hr
    case h_2 => cases hr
    rename_i l off he
    split at hr
    case h_2 => cases hr
    rename_i cs hcs
    split at hr
    case isFalse => cases hr
    rename_i hle
    obtain rfl := Option.some.inj hr
    have hv : RV H (a.tmps.getD b undef) (f b) := hf
    rw [he] at hv
    have hval := hv.lt_of_ptr
    obtain ⟨hone, vs, T, fz, hb, hra⟩ := hh.read hcs
    have hlen := hra.1
    cases hd : d.isRow with
    | true =>
      have hrange : w.rangeAt l off ((vs.toList.drop off).take n) := by
        intro j v hj
        rw [cell_of_row w l (off + j) vs T _ hb]
        rw [List.getElem?_take] at hj
        split at hj
        · simpa using hj
        · cases hj
      have hl : ((vs.toList.drop off).take n).length = n := by simp; omega
      have hrun := run_loadVar_mid (P := P) w l off t ((vs.toList.drop off).take n) d hrange hu hd (by rw [hl]; exact hn)
      refine ⟨.agg ((vs.toList.drop off).take n).toArray, by simp only [resOf, Sem.run_bind, hval, asAddr, Sem.run_pure, Result.andThen_ok, hrun], ?_⟩
      rw [show ((vs.toList.drop off).take n).toArray = vs.extract off (off + n) by rw [← extract_drop_take]]
      exact RV.mkv hra hone off n hle
    | false =>
      obtain rfl := row_or_one hrow hd
      have hlt : off < vs.size := by omega
      have hc : w.cell? ⟨l, off, none⟩ = some (vs.getD off undef) := by
        rw [cell_of_row w l off vs T _ hb]; simp [hlt]
      have hrun := run_loadVar_one (P := P) w t d ⟨l, off, none⟩ _ hu hd hc
      exact ⟨vs.getD off undef, by simp only [resOf, Sem.run_bind, hval, asAddr, Sem.run_pure, Result.andThen_ok, hrun], RV.mkv1 hra off hle⟩
theorem run_resList {H : PH} {f : Fr} {s : Hp} {a : Act} {w : World} (hh : Holds H s w) : ∀ (rvs : List ResultVar) (ps : List (Nat × Option (Bool × Nat))) (rs : List AV), (∀ p ∈ ps, RV H (a.tmps.getD p.1 undef) (f p.1)) → mapAll (prepRes P) rvs = some ps → mapAll (resG f s) ps = some rs →
    ∃ vs : List Value, (rvs.mapM (resOf a.tmps)).run P w = .ok vs w ∧ vs.length = rs.length ∧ ∀ (j : Nat) (x : Value) (u : AV), vs[j]? = some x → rs[j]? = some u → RV H x u
  | [], ps, rs, hf, hp, hr => by
    simp only [mapAll, Option.some.injEq] at hp; subst hp
    simp only [mapAll, Option.some.injEq] at hr; subst hr
    exact ⟨[], rfl, rfl, fun j x u h => by simp at h⟩
  | rv :: rvs, ps, rs, hf, hp, hr => by
    simp only [mapAll] at hp
    split at hp
    case h_2 => cases hp
    rename_i p ps' hp1 hp2
    obtain rfl := Option.some.inj hp
    simp only [mapAll] at hr
    split at hr
    case h_2 => cases hr
    rename_i r rs' hr1 hr2
    obtain rfl := Option.some.inj hr
    obtain ⟨v, h1, h2⟩ := run_res (hf p (by simp)) hh hp1 hr1
    obtain ⟨vs, h3, h4, h5⟩ := run_resList hh rvs ps' rs' (fun q hq => hf q (by simp [hq])) hp2 hr2
    refine ⟨v :: vs, ?_, by simp [h4], fun j x u hx hu => ?_⟩
    · rw [List.mapM_cons, Sem.run_bind, h1, Result.andThen_ok, Sem.run_bind, h3]; rfl
    · match j, hx, hu with
      | 0, hx, hu =>
        obtain rfl : v = x := by simpa using hx
        obtain rfl : r = u := by simpa using hu
        exact h2
      | j + 1, hx, hu => exact h5 j x u (by simpa using hx) (by simpa using hu)
theorem run_results {H : PH} {f : Fr} {s : Hp} {a : Act} {w : World} {fn : Func} {ps : List (Nat × Option (Bool × Nat))} (hf : ∀ p ∈ ps, RV H (a.tmps.getD p.1 undef) (f p.1)) (hh : Holds H s w) (hp : mapAll (prepRes P) fn.results.toList = some ps) {r : AV} (hr : resAll f s ps = some r) :
    ∃ v, (results fn a.tmps).run P w = .ok v w ∧ RV H v r := by
  unfold resAll at hr
  have fin : ∀ rs, mapAll (resG f s) ps = some rs → ∃ vs : Array Value, (results fn a.tmps).run P w = .ok (if h : vs.size = 1 then vs[0] else .tuple vs) w ∧ vs.toList.length = rs.length ∧ ∀ (j : Nat) (x : Value) (u : AV), vs.toList[j]? = some x → rs[j]? = some u → RV H x u := fun rs hrs => by
    obtain ⟨vs, h1, h2, h3⟩ := run_resList hh fn.results.toList ps rs hf hp hrs
    refine ⟨vs.toArray, ?_, by simpa using h2, fun j x u hx hu => h3 j x u (by simpa using hx) hu⟩
    have e : results fn a.tmps = (do let vs ← fn.results.mapM (resOf a.tmps); pure (if h : vs.size = 1 then vs[0] else .tuple vs)) := rfl
    rw [e, Sem.run_bind, Array.mapM_eq_mapM_toList, Sem.run_map]
    rw [h1]
    rfl
  split at hr
  · rename_i r' hrs
    obtain rfl := Option.some.inj hr
    obtain ⟨vs, h1, h2, h3⟩ := fin _ hrs
    have hsz : vs.size = 1 := by simpa using h2
    rw [dif_pos hsz] at h1
    refine ⟨_, h1, h3 0 _ _ ?_ rfl⟩
    simp [hsz]
  · rename_i rs hne hrs
    obtain rfl := Option.some.inj hr
    obtain ⟨vs, h1, h2, h3⟩ := fin _ hrs
    have hsz : vs.size ≠ 1 := by
      intro he
      have hl : rs.length = 1 := by rw [← h2]; simpa using he
      obtain ⟨x, hx⟩ := List.length_eq_one_iff.1 hl
      exact hne x hx
    rw [dif_neg hsz] at h1
    exact ⟨_, h1, .tup _ _ (RVA.iff_list.2 ⟨h2, h3⟩).1 (RVA.iff_list.2 ⟨h2, h3⟩).2⟩
  · cases hr
theorem ACp_of (hm : P.follows .mixedOrders = true) {m : Nat} {g : FuncId} {F : AFunc} (hF : prepFunc P m g = some F) {args : List AV} {s : Hp} {R Rp : AV → Hp → Prop} (hlen : args.length ≤ F.ntmps) (h : awp ⟨P, Rp⟩ F.code (postF F R) (initF args) s) : ACp P g args s R (up Rp) := by
  intro vs w H ha hh
  unfold prepFunc at hF
  split at hF
  case h_2 => cases hF
  rename_i fn hfn
  split at hF
  case h_2 => cases hF
  rename_i c hc
  split at hF
  case h_2 => cases hF
  rename_i x rs hx hrs
  split at hF
  case isFalse => cases hF
  rename_i hps
  obtain rfl := Option.some.inj hF
  simp only at hlen h
  refine calls_of_wp hfn hc ?_
  have hvs : vs.size = args.length := ha.1
  have hs0 : Sim ([], []) fn.ntmps H s w (initF args) s { tmps := vs ++ Array.replicate (fn.ntmps - vs.size) undef, defers := [] } w := by
    refine ⟨by simp; omega, ⟨rfl, fun p hp => by simp at hp⟩, H, fun t => ?_, .refl hh⟩
    by_cases ht : t < args.length
    · have e1 : initF args t = args[t] := by simp [initF, List.getD, ht]
      rw [e1]
      have := ha.2 t args[t] (List.getElem?_eq_getElem ht)
      have e2 : (vs ++ Array.replicate (fn.ntmps - vs.size) undef).getD t undef = vs.getD t undef := by
        simp [Array.getElem?_append, hvs, ht]
      rw [e2]; exact this
    · have e1 : initF args t = .tup [] := by simp [initF, List.getD, ht]
      rw [e1]
      have e2 : (vs ++ Array.replicate (fn.ntmps - vs.size) undef).getD t undef = undef := by
        simp only [Array.getD_eq_getD_getElem?, Array.getElem?_append, hvs]
        rw [if_neg ht]
        simp only [Array.getElem?_replicate]
        split <;> rfl
      rw [e2]; exact RV.undef H
  refine wp_mono (awp_sound hm (fun p hp => by simp at hp) c x hx _ _ _ _ _ hs0 h) fun e a' w' hq => ?_
  have fin : (∃ f s1, Sim ([], []) fn.ntmps H s w f s1 a' w' ∧ ∃ r s2, resAll f s1 rs = some r ∧ s2.sub s1 ∧ R r s2) →
      a'.defers = [] ∧ ∃ v, (results fn a'.tmps).run P w' = .ok v w' ∧ ((∃ v' r H' s', Ending.returned v = .returned v' ∧ Step H s w H' s' w' ∧ RV H' v' r ∧ R r s') ∨ (∃ v' r H' s', Ending.returned v = .panicked [{ v := v', recovered := false }] ∧ Step H s w H' s' w' ∧ RV H' v' r ∧ up Rp r s')) := by
    rintro ⟨f, s1, ⟨_, hdf, H', hf, hst⟩, r, s2, hr, hsub, hR⟩
    obtain ⟨v, hrun, hv⟩ := run_results (fun p _ => hf p.1) hst.holds hrs hr
    exact ⟨hdf.1, v, hrun, .inl ⟨v, r, H', s2, rfl, hst.drop hsub, hv, hR⟩⟩
  cases e with
  | normal => exact fin hq
  | ret => exact fin hq
  | exit id => obtain ⟨f, s1, _, hK⟩ := hq; exact hK.elim
  | goto l => exact hq.elim
  | panic ch =>
    obtain ⟨hdf, v, r, H', s', rfl, hst, hv, hR, _⟩ := hq
    exact ⟨hdf.1, .inr ⟨v, r, H', s', rfl, hst, hv, hR⟩⟩
  | outgrown => exact hq.elim
theorem AC_of (hm : P.follows .mixedOrders = true) {m : Nat} {g : FuncId} {F : AFunc} (hF : prepFunc P m g = some F) {args : List AV} {s : Hp} {R : AV → Hp → Prop} (hlen : args.length ≤ F.ntmps) (h : awp (Ctx.of P) F.code (postF F R) (initF args) s) : AC P g args s R :=
  (ACp_of hm hF hlen h).np
end
end Go.Av
