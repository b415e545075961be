/-
  Proved: for every input the Go function indenturelaw31.SweepPages returns true, and each argument reads behind the call as it read before.
  Conditions: none beyond those of the given row.
-/
import Derived.Test.YtcfpcblgmmeioaaGreatRows
import Derived.Test.YtcfpcblgmmeioaaGreatMJ
import Derived.JoinedOf
set_option linter.all false
set_option maxRecDepth 100000
namespace Go.Proofs.YtcfpcblgmmeioaaGreat.sweepPages
open Go Go.bD
theorem own:ownKnob Tryz.prog.godebug=none:=by kernel_rfl
theorem laid:laidOutB Tryz.prog=true:=by kernel_rfl
theorem reads: ∀t∈Tryz.f3.params.toList,Tryz.prog.readableRec t=true∧t<Tryz.prog.types.size:=by
 rw[Tryz.params3]
 intro t HS
 simp only[a6W,a7V,or_false]at HS
 subst HS;exact⟨by kernel_rfl,by decide+kernel⟩
abbrev lS:List (R→Prop):= [AL we]
theorem a6c:tP Tryz.prog Tryz.f3.params.toList lS:=by
 rw[Tryz.params3]
 exact⟨w9.cell (by kernel_rfl) a6a,trivial⟩
theorem spec {H:Type} (cK:List (DataW H)) (h:cK.length=Tryz.f3.params.toList.length):Rows.sweepPagesSpec.fn H cK= {results:= [.lit (.bool true)],args:=cK,vars:= []}:=by
 rw[Tryz.params3]at h
 match cK,h with
 | [_],_=>rfl
theorem ac (HT:List R) (h:tQ lS HT):AC Tryz.prog 3 HT U.emp fun r _=>r= .v (.bool true):=by
 obtain⟨a0,_,rfl,h0,rfl⟩:=h
 obtain⟨x,x1,x2,rfl⟩:=a5U h0
 exact a5E x .any x2 x1 U.emp
theorem lifted (os:Os) (started:os.Started) (H:Type) (enc:TypeId×Value→H):
  ReturnsInHanded {} Tryz.checked os 3 .any (Rows.sweepPagesSpec.pre6 enc Tryz.prog Tryz.f3 [] false) (Rows.sweepPagesSpec.post enc Tryz.prog Tryz.f3 false true false false):=by
 refine returnsInHanded_of_change (C:=Tryz.checked) (s:=Rows.sweepPagesSpec) own started (by kernel_rfl) Tryz.func3
  (ChangeSpec.witness6 (enc:=enc) (C:=Tryz.checked) (s:=Rows.sweepPagesSpec) false ⟨#[],#[.slice none 0 0],[]⟩ 8 (by kernel_rfl) (by kernel_rfl) (by kernel_rfl) (by kernel_rfl) (by kernel_rfl)) ?_
 intro W base args cK gs before a6d hW _ _
 exact a5N (b2:=4) laid reads rfl (by kernel_rfl) (by kernel_rfl) a6c spec ac W base args cK gs before a6d hW
theorem proved:Rows.SweepPagesSaid:=
 OpenClaim.holds_of_wide 3 Tryz.f3 rfl rfl rfl rfl rfl rfl rfl ⟨rfl,rfl,rfl,rfl,rfl⟩ rfl rfl rfl rfl rfl (by kernel_rfl) Tryz.func3 a6b
  (of_decide_eq_true (by kernel_rfl)) (by unfold Func.isWrapper;first|(rw[if_pos (by decide+kernel)];kernel_rfl)|(rw[if_neg (by decide+kernel)];exact⟨rfl,rfl⟩))
  (fun os started H enc _=>lifted os started H enc)
end Go.Proofs.YtcfpcblgmmeioaaGreat.sweepPages
