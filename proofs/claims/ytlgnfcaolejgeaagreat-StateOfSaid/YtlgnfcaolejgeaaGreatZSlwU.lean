/-
  Proved: for every input the Go function indenturelaw21.StateOf returns true, and each argument reads behind the call as it read before.
  Conditions: none beyond those of the given row.
-/
import Derived.Test.YtlgnfcaolejgeaaGreatRows
import Derived.Test.YtlgnfcaolejgeaaGreatMI
import Derived.JoinedOf
set_option linter.all false
set_option maxRecDepth 100000
namespace Go.Proofs.YtlgnfcaolejgeaaGreat.stateOf
open Go Go.bz
theorem own:ownKnob Tryz.prog.godebug=none:=by kernel_rfl
theorem laid:laidOutB Tryz.prog=true:=by kernel_rfl
theorem reads: ∀t∈Tryz.f7.params.toList,Tryz.prog.readableRec t=true∧t<Tryz.prog.types.size:=by
 rw[Tryz.params7]
 intro t H3
 simp only[a5j,a6m,or_false]at H3
 rcases H3 with rfl|rfl<;>exact⟨by kernel_rfl,by decide+kernel⟩
abbrev lC:List (R→Prop):= [th vE,th oK]
theorem a4A:ti Tryz.prog Tryz.f7.params.toList lC:=by
 rw[Tryz.params7]
 exact⟨tg.cell (by kernel_rfl) a4y,tg.cell (by kernel_rfl) A7,trivial⟩
theorem spec {H:Type} (cJ:List (DataW H)) (h:cJ.length=Tryz.f7.params.toList.length):Rows.stateOfSpec.fn H cJ= {results:= [.lit (.bool true)],args:=cJ,vars:= []}:=by
 rw[Tryz.params7]at h
 match cJ,h with
 | [_,_],_=>rfl
theorem ac (H4:List R) (h:tj lC H4):AC Tryz.prog 7 H4 U.emp fun r _=>r= .v (.bool true):=by
 obtain⟨a0,_,rfl,h0,jg,_,rfl,h1,rfl⟩:=h
 obtain⟨x,cd,ca,rfl⟩:=a4r h0
 obtain⟨y,y1,rfl⟩:=a4s h1
 exact a4b x .any y ca cd y1 U.emp
theorem lifted (os:Os) (started:os.Started) (H:Type) (enc:TypeId×Value→H):
  ReturnsInHanded {} Tryz.checked os 7 .any (Rows.stateOfSpec.pre6 enc Tryz.prog Tryz.f7 [] false) (Rows.stateOfSpec.post enc Tryz.prog Tryz.f7 false true false false):=by
 refine returnsInHanded_of_change (C:=Tryz.checked) (s:=Rows.stateOfSpec) own started (by kernel_rfl) Tryz.func7
  (ChangeSpec.witness6 (enc:=enc) (C:=Tryz.checked) (s:=Rows.stateOfSpec) false ⟨#[],#[.slice none 0 0,.string ⟨#[]⟩],[]⟩ 8 (by kernel_rfl) (by kernel_rfl) (by kernel_rfl) (by kernel_rfl) (by kernel_rfl)) ?_
 intro W base args cJ gs before a4B hW _ _
 exact a4k (b2:=4) laid reads rfl (by kernel_rfl) (by kernel_rfl) a4A spec ac W base args cJ gs before a4B hW
theorem proved:Rows.StateOfSaid:=
 OpenClaim.holds_of_wide 7 Tryz.f7 rfl rfl rfl rfl rfl rfl rfl ⟨rfl,rfl,rfl,rfl,rfl⟩ rfl rfl rfl rfl rfl (by kernel_rfl) Tryz.func7 a4z
  (of_decide_eq_true (by kernel_rfl)) (by unfold Func.isWrapper;first|(rw[if_pos (by decide+kernel)];kernel_rfl)|(rw[if_neg (by decide+kernel)];exact⟨rfl,rfl⟩))
  (fun os started H enc _=>lifted os started H enc)
end Go.Proofs.YtlgnfcaolejgeaaGreat.stateOf
