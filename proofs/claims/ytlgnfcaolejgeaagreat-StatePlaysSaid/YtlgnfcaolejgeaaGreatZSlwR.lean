/-
  Proved: for every input the Go function indenturelaw21.StatePlays returns true, and each argument reads behind the call as it read before.
  Conditions: none beyond those of the given row.
-/
import Derived.Test.YtlgnfcaolejgeaaGreatRows
import Derived.Test.YtlgnfcaolejgeaaGreatMI
import Derived.JoinedOf
set_option linter.all false
set_option maxRecDepth 100000
namespace Go.Proofs.YtlgnfcaolejgeaaGreat.statePlays
open Go Go.bz
theorem own:ownKnob Tryz.prog.godebug=none:=by kernel_rfl
theorem laid:laidOutB Tryz.prog=true:=by kernel_rfl
theorem reads: ∀t∈Tryz.f5.params.toList,Tryz.prog.readableRec t=true∧t<Tryz.prog.types.size:=by
 rw[Tryz.params5]
 intro t H3
 simp only[a5q,a6u,or_false]at H3
 subst H3;exact⟨by kernel_rfl,by decide+kernel⟩
abbrev lD:List (R→Prop):= [A7 vI]
theorem a4H:tn Tryz.prog Tryz.f5.params.toList lD:=by
 rw[Tryz.params5]
 exact⟨vE.cell (by kernel_rfl) a4F,trivial⟩
theorem spec {H:Type} (cJ:List (DataW H)) (h:cJ.length=Tryz.f5.params.toList.length):Rows.statePlaysSpec.fn H cJ= {results:= [.lit (.bool true)],args:=cJ,vars:= []}:=by
 rw[Tryz.params5]at h
 match cJ,h with
 | [_],_=>rfl
theorem ac (H4:List R) (h:tp lD H4):AC Tryz.prog 5 H4 U.emp fun r _=>r= .v (.bool true):=by
 obtain⟨a0,_,rfl,h0,rfl⟩:=h
 obtain⟨x,cd,ca,rfl⟩:=a4z h0
 exact a4j x .any ca cd U.emp
theorem lifted (os:Os) (started:os.Started) (H:Type) (enc:TypeId×Value→H):
  ReturnsInHanded {} Tryz.checked os 5 .any (Rows.statePlaysSpec.pre6 enc Tryz.prog Tryz.f5 [] false) (Rows.statePlaysSpec.post enc Tryz.prog Tryz.f5 false true false false):=by
 refine returnsInHanded_of_change (C:=Tryz.checked) (s:=Rows.statePlaysSpec) own started (by kernel_rfl) Tryz.func5
  (ChangeSpec.witness6 (enc:=enc) (C:=Tryz.checked) (s:=Rows.statePlaysSpec) false ⟨#[],#[.slice none 0 0],[]⟩ 8 (by kernel_rfl) (by kernel_rfl) (by kernel_rfl) (by kernel_rfl) (by kernel_rfl)) ?_
 intro W base args cJ gs before a4I hW _ _
 exact a4s (b2:=4) laid reads rfl (by kernel_rfl) (by kernel_rfl) a4H spec ac W base args cJ gs before a4I hW
theorem proved:Rows.StatePlaysSaid:=
 OpenClaim.holds_of_wide 5 Tryz.f5 rfl rfl rfl rfl rfl rfl rfl ⟨rfl,rfl,rfl,rfl,rfl⟩ rfl rfl rfl rfl rfl (by kernel_rfl) Tryz.func5 a4G
  (of_decide_eq_true (by kernel_rfl)) (by unfold Func.isWrapper;first|(rw[if_pos (by decide+kernel)];kernel_rfl)|(rw[if_neg (by decide+kernel)];exact⟨rfl,rfl⟩))
  (fun os started H enc _=>lifted os started H enc)
end Go.Proofs.YtlgnfcaolejgeaaGreat.statePlays
