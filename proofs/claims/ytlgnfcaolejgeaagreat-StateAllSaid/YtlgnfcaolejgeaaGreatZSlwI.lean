/-
  Proved: for every input the Go function indenturelaw21.StateAll returns true, and each argument reads behind the call as it read before.
  Conditions: none beyond those of the given row.
-/
import Derived.Test.YtlgnfcaolejgeaaGreatRows
import Derived.Test.YtlgnfcaolejgeaaGreatMI
import Derived.Test.YtlgnfcaolejgeaaGreatMJ
import Derived.JoinedOf
set_option linter.all false
set_option maxRecDepth 100000
namespace Go.Proofs.YtlgnfcaolejgeaaGreat.stateAll
open Go Go.bB
theorem own:ownKnob Tryz.prog.godebug=none:=by kernel_rfl
theorem laid:laidOutB Tryz.prog=true:=by kernel_rfl
theorem reads: ∀t∈Tryz.f6.params.toList,Tryz.prog.readableRec t=true∧t<Tryz.prog.types.size:=by
 rw[Tryz.params6]
 intro t H4
 simp only[a5k,a6p,or_false]at H4
 rcases H4 with rfl|rfl<;>exact⟨by kernel_rfl,by decide+kernel⟩
abbrev lH:List (R→Prop):= [vH tu,vH tu]
theorem a4w:ts Tryz.prog Tryz.f6.params.toList lH:=by
 rw[Tryz.params6]
 exact⟨tr.cell (by kernel_rfl) H3,tr.cell (by kernel_rfl) H3,trivial⟩
theorem spec {H:Type} (cC:List (DataW H)) (h:cC.length=Tryz.f6.params.toList.length):Rows.stateAllSpec.fn H cC= {results:= [.lit (.bool true)],args:=cC,vars:= []}:=by
 rw[Tryz.params6]at h
 match cC,h with
 | [_,_],_=>rfl
theorem ac (H5:List R) (h:tt lH H5):AC Tryz.prog 6 H5 U.emp fun r _=>r= .v (.bool true):=by
 obtain⟨a0,_,rfl,h0,hC,_,rfl,h1,rfl⟩:=h
 obtain⟨x,ch,ca,rfl⟩:=H0 h0
 obtain⟨y,y1,y2,rfl⟩:=H0 h1
 exact a4a x y .any .any ca y2 ch y1 U.emp
theorem lifted (os:Os) (started:os.Started) (H:Type) (enc:TypeId×Value→H):
  ReturnsInHanded {} Tryz.checked os 6 .any (Rows.stateAllSpec.pre6 enc Tryz.prog Tryz.f6 [] false) (Rows.stateAllSpec.post enc Tryz.prog Tryz.f6 false true false false):=by
 refine returnsInHanded_of_change (C:=Tryz.checked) (s:=Rows.stateAllSpec) own started (by kernel_rfl) Tryz.func6
  (ChangeSpec.witness6 (enc:=enc) (C:=Tryz.checked) (s:=Rows.stateAllSpec) false ⟨#[],#[.slice none 0 0,.slice none 0 0],[]⟩ 8 (by kernel_rfl) (by kernel_rfl) (by kernel_rfl) (by kernel_rfl) (by kernel_rfl)) ?_
 intro W base args cC gs before a4x hW _ _
 exact a4j (b2:=4) laid reads rfl (by kernel_rfl) (by kernel_rfl) a4w spec ac W base args cC gs before a4x hW
theorem proved:Rows.StateAllSaid:=
 OpenClaim.holds_of_wide 6 Tryz.f6 rfl rfl rfl rfl rfl rfl rfl ⟨rfl,rfl,rfl,rfl,rfl⟩ rfl rfl rfl rfl rfl (by kernel_rfl) Tryz.func6 a4v
  (of_decide_eq_true (by kernel_rfl)) (by unfold Func.isWrapper;first|(rw[if_pos (by decide+kernel)];kernel_rfl)|(rw[if_neg (by decide+kernel)];exact⟨rfl,rfl⟩))
  (fun os started H enc _=>lifted os started H enc)
end Go.Proofs.YtlgnfcaolejgeaaGreat.stateAll
