/-
  Proved: for every input the Go function indenturelaw21.StateAll returns true, and each argument reads behind the call as it read before.
  Conditions: none beyond those of the given row.
-/
import Derived.Test.YtlgnfcaolejgeaaGreatRows
import Derived.Test.YtlgnfcaolejgeaaGreatMI
import Derived.JoinedOf
set_option linter.all false
set_option maxRecDepth 100000
namespace Go.Proofs.YtlgnfcaolejgeaaGreat.stateAll
open Go Go.bz
theorem own:ownKnob Tryz.prog.godebug=none:=by kernel_rfl
theorem laid:laidOutB Tryz.prog=true:=by kernel_rfl
theorem reads: ∀t∈Tryz.f6.params.toList,Tryz.prog.readableRec t=true∧t<Tryz.prog.types.size:=by
 rw[Tryz.params6]
 intro t H2
 simp only[a5g,a6h,or_false]at H2
 rcases H2 with rfl|rfl<;>exact⟨by kernel_rfl,by decide+kernel⟩
abbrev lD:List (R→Prop):= [vE tn,vE tn]
theorem a4v:tl Tryz.prog Tryz.f6.params.toList lD:=by
 rw[Tryz.params6]
 exact⟨tk.cell (by kernel_rfl) H0,tk.cell (by kernel_rfl) H0,trivial⟩
theorem spec {H:Type} (cz:List (DataW H)) (h:cz.length=Tryz.f6.params.toList.length):Rows.stateAllSpec.fn H cz= {results:= [.lit (.bool true)],args:=cz,vars:= []}:=by
 rw[Tryz.params6]at h
 match cz,h with
 | [_,_],_=>rfl
theorem ac (H3:List R) (h:tm lD H3):AC Tryz.prog 6 H3 U.emp fun r _=>r= .v (.bool true):=by
 obtain⟨a0,_,rfl,h0,je,_,rfl,h1,rfl⟩:=h
 obtain⟨x,cd,ca,rfl⟩:=GY h0
 obtain⟨y,y1,y2,rfl⟩:=GY h1
 exact a3Z x y .any .any ca y2 cd y1 U.emp
theorem lifted (os:Os) (started:os.Started) (H:Type) (enc:TypeId×Value→H):
  ReturnsInHanded {} Tryz.checked os 6 .any (Rows.stateAllSpec.pre6 enc Tryz.prog Tryz.f6 [] false) (Rows.stateAllSpec.post enc Tryz.prog Tryz.f6 false true false false):=by
 refine returnsInHanded_of_change (C:=Tryz.checked) (s:=Rows.stateAllSpec) own started (by kernel_rfl) Tryz.func6
  (ChangeSpec.witness6 (enc:=enc) (C:=Tryz.checked) (s:=Rows.stateAllSpec) false ⟨#[],#[.slice none 0 0,.slice none 0 0],[]⟩ 8 (by kernel_rfl) (by kernel_rfl) (by kernel_rfl) (by kernel_rfl) (by kernel_rfl)) ?_
 intro W base args cz gs before a4w hW _ _
 exact a4i (b2:=4) laid reads rfl (by kernel_rfl) (by kernel_rfl) a4v spec ac W base args cz gs before a4w hW
theorem proved:Rows.StateAllSaid:=
 OpenClaim.holds_of_wide 6 Tryz.f6 rfl rfl rfl rfl rfl rfl rfl ⟨rfl,rfl,rfl,rfl,rfl⟩ rfl rfl rfl rfl rfl (by kernel_rfl) Tryz.func6 a4u
  (of_decide_eq_true (by kernel_rfl)) (by unfold Func.isWrapper;first|(rw[if_pos (by decide+kernel)];kernel_rfl)|(rw[if_neg (by decide+kernel)];exact⟨rfl,rfl⟩))
  (fun os started H enc _=>lifted os started H enc)
end Go.Proofs.YtlgnfcaolejgeaaGreat.stateAll
