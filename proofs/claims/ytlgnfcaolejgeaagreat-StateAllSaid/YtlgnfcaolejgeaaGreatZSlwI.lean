/-
  Proved: for every input the Go function indenturelaw21.StateAll returns true, and each argument reads behind the call as it read before.
  Conditions: none beyond those of the given row.
-/
import Derived.Test.YtlgnfcaolejgeaaGreatRows
import Derived.Test.YtlgnfcaolejgeaaGreatMI
import Derived.Test.YtlgnfcaolejgeaaGreatMJ
import Derived.JoinedOf
set_option linter.all false
set_option maxRecDepth 100000
namespace Go.Proofs.YtlgnfcaolejgeaaGreat.stateAll
open Go Go.bA
theorem own:ownKnob Tryz.prog.godebug=none:=by kernel_rfl
theorem laid:laidOutB Tryz.prog=true:=by kernel_rfl
theorem reads: ∀t∈Tryz.f6.params.toList,Tryz.prog.readableRec t=true∧t<Tryz.prog.types.size:=by
 rw[Tryz.params6]
 intro t H3
 simp only[a5i,a6n,or_false]at H3
 rcases H3 with rfl|rfl<;>exact⟨by kernel_rfl,by decide+kernel⟩
abbrev lG:List (R→Prop):= [vG tt,vG tt]
theorem a4v:tr Tryz.prog Tryz.f6.params.toList lG:=by
 rw[Tryz.params6]
 exact⟨tq.cell (by kernel_rfl) H2,tq.cell (by kernel_rfl) H2,trivial⟩
theorem spec {H:Type} (cB:List (DataW H)) (h:cB.length=Tryz.f6.params.toList.length):Rows.stateAllSpec.fn H cB= {results:= [.lit (.bool true)],args:=cB,vars:= []}:=by
 rw[Tryz.params6]at h
 match cB,h with
 | [_,_],_=>rfl
theorem ac (H4:List R) (h:ts lG H4):AC Tryz.prog 6 H4 U.emp fun r _=>r= .v (.bool true):=by
 obtain⟨a0,_,rfl,h0,hB,_,rfl,h1,rfl⟩:=h
 obtain⟨x,cg,c9,rfl⟩:=GZ h0
 obtain⟨y,y1,y2,rfl⟩:=GZ h1
 exact a3Z x y .any .any c9 y2 cg y1 U.emp
theorem lifted (os:Os) (started:os.Started) (H:Type) (enc:TypeId×Value→H):
  ReturnsInHanded {} Tryz.checked os 6 .any (Rows.stateAllSpec.pre6 enc Tryz.prog Tryz.f6 [] false) (Rows.stateAllSpec.post enc Tryz.prog Tryz.f6 false true false false):=by
 refine returnsInHanded_of_change (C:=Tryz.checked) (s:=Rows.stateAllSpec) own started (by kernel_rfl) Tryz.func6
  (ChangeSpec.witness6 (enc:=enc) (C:=Tryz.checked) (s:=Rows.stateAllSpec) false ⟨#[],#[.slice none 0 0,.slice none 0 0],[]⟩ 8 (by kernel_rfl) (by kernel_rfl) (by kernel_rfl) (by kernel_rfl) (by kernel_rfl)) ?_
 intro W base args cB gs before a4w hW _ _
 exact a4i (b2:=4) laid reads rfl (by kernel_rfl) (by kernel_rfl) a4v spec ac W base args cB gs before a4w hW
theorem proved:Rows.StateAllSaid:=
 OpenClaim.holds_of_wide 6 Tryz.f6 rfl rfl rfl rfl rfl rfl rfl ⟨rfl,rfl,rfl,rfl,rfl⟩ rfl rfl rfl rfl rfl (by kernel_rfl) Tryz.func6 a4u
  (of_decide_eq_true (by kernel_rfl)) (by unfold Func.isWrapper;first|(rw[if_pos (by decide+kernel)];kernel_rfl)|(rw[if_neg (by decide+kernel)];exact⟨rfl,rfl⟩))
  (fun os started H enc _=>lifted os started H enc)
end Go.Proofs.YtlgnfcaolejgeaaGreat.stateAll
