/-
  Proved: for every input the Go function indenturelaw21.StateCopies returns true, and each argument reads behind the call as it read before.
  Conditions: none beyond those of the given row.
-/
import Derived.Test.YtlgnfcaolejgeaaGreatRows
import Derived.Test.YtlgnfcaolejgeaaGreatMI
import Derived.JoinedOf
set_option linter.all false
set_option maxRecDepth 100000
namespace Go.Proofs.YtlgnfcaolejgeaaGreat.stateCopies
open Go Go.bx
theorem own:ownKnob Tryz.prog.godebug=none:=by kernel_rfl
theorem laid:laidOutB Tryz.prog=true:=by kernel_rfl
theorem reads: ∀t∈Tryz.f4.params.toList,Tryz.prog.readableRec t=true∧t<Tryz.prog.types.size:=by
 rw[Tryz.params4]
 intro t H3
 simp only[a4T,a5W,or_false]at H3
 rcases H3 with rfl|rfl<;>exact⟨by kernel_rfl,by decide+kernel⟩
abbrev lD:List (R→Prop):= [vA tk,vA tk]
theorem a4k:ti Tryz.prog Tryz.f4.params.toList lD:=by
 rw[Tryz.params4]
 exact⟨th.cell (by kernel_rfl) H2,th.cell (by kernel_rfl) H2,trivial⟩
theorem spec {H:Type} (cJ:List (DataW H)) (h:cJ.length=Tryz.f4.params.toList.length):Rows.stateCopiesSpec.fn H cJ= {results:= [.lit (.bool true)],args:=cJ,vars:= []}:=by
 rw[Tryz.params4]at h
 match cJ,h with
 | [_,_],_=>rfl
theorem ac (H4:List R) (h:tj lD H4):AC Tryz.prog 4 H4 U.emp fun r _=>r= .v (.bool true):=by
 obtain⟨a0,_,rfl,h0,jf,_,rfl,h1,rfl⟩:=h
 obtain⟨x,cd,ca,rfl⟩:=GZ h0
 obtain⟨y,y1,y2,rfl⟩:=GZ h1
 exact a3O x y .any .any ca y2 cd y1 U.emp
theorem lifted (os:Os) (started:os.Started) (H:Type) (enc:TypeId×Value→H):
  ReturnsInHanded {} Tryz.checked os 4 .any (Rows.stateCopiesSpec.pre6 enc Tryz.prog Tryz.f4 [] false) (Rows.stateCopiesSpec.post enc Tryz.prog Tryz.f4 false true false false):=by
 refine returnsInHanded_of_change (C:=Tryz.checked) (s:=Rows.stateCopiesSpec) own started (by kernel_rfl) Tryz.func4
  (ChangeSpec.witness6 (enc:=enc) (C:=Tryz.checked) (s:=Rows.stateCopiesSpec) false ⟨#[],#[.slice none 0 0,.slice none 0 0],[]⟩ 8 (by kernel_rfl) (by kernel_rfl) (by kernel_rfl) (by kernel_rfl) (by kernel_rfl)) ?_
 intro W base args cJ gs before a4l hW _ _
 exact a3X (b2:=4) laid reads rfl (by kernel_rfl) (by kernel_rfl) a4k spec ac W base args cJ gs before a4l hW
theorem proved:Rows.StateCopiesSaid:=
 OpenClaim.holds_of_wide 4 Tryz.f4 rfl rfl rfl rfl rfl rfl rfl ⟨rfl,rfl,rfl,rfl,rfl⟩ rfl rfl rfl rfl rfl (by kernel_rfl) Tryz.func4 a4j
  (of_decide_eq_true (by kernel_rfl)) (by unfold Func.isWrapper;first|(rw[if_pos (by decide+kernel)];kernel_rfl)|(rw[if_neg (by decide+kernel)];exact⟨rfl,rfl⟩))
  (fun os started H enc _=>lifted os started H enc)
end Go.Proofs.YtlgnfcaolejgeaaGreat.stateCopies
