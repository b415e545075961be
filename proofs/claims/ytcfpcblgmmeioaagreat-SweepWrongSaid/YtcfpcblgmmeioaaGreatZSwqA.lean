/-
  Proved: for every input the Go function indenturelaw31.SweepWrong returns true, and each argument reads behind the call as it read before.
  Conditions: none beyond those of the given row.
-/
import Derived.Test.YtcfpcblgmmeioaaGreatRows
import Derived.Test.YtcfpcblgmmeioaaGreatMI
import Derived.JoinedOf
set_option linter.all false
set_option maxRecDepth 100000
namespace Go.Proofs.YtcfpcblgmmeioaaGreat.sweepWrong
open Go Go.bt
theorem own:ownKnob Tryz.prog.godebug=none:=by kernel_rfl
theorem laid:laidOutB Tryz.prog=true:=by kernel_rfl
theorem reads: ∀t∈Tryz.f5.params.toList,Tryz.prog.readableRec t=true∧t<Tryz.prog.types.size:=by
 rw[Tryz.params5]
 intro t G5
 simp only[a3n,a4r,or_false]at G5
 rcases G5 with rfl|rfl|rfl<;>exact⟨by kernel_rfl,by decide+kernel⟩
abbrev lg:List (R→Prop):= [sy sB,sy (SInt .i64),sy uS]
theorem a2x:sz Tryz.prog Tryz.f5.params.toList lg:=by
 rw[Tryz.params5]
 exact⟨qL.cell (by kernel_rfl) G4,qL.cell (by kernel_rfl) (dv.int (by kernel_rfl)),qL.cell (by kernel_rfl) a2v,trivial⟩
theorem spec {H:Type} (cF:List (DataW H)) (h:cF.length=Tryz.f5.params.toList.length):Rows.sweepWrongSpec.fn H cF= {results:= [.lit (.bool true)],args:=cF,vars:= []}:=by
 rw[Tryz.params5]at h
 match cF,h with
 | [_,_,_],_=>rfl
theorem ac (G6:List R) (h:sA lg G6):AC Tryz.prog 5 G6 U.emp fun r _=>r= .v (.bool true):=by
 obtain⟨a0,_,rfl,h0,iD,_,rfl,h1,a2,_,rfl,h2,rfl⟩:=h
 obtain⟨p,_,e⟩:=G1 h0
 obtain rfl:=(a5G e).1
 obtain⟨d,_,e⟩:=h1
 obtain rfl:=(a5G e).1
 obtain⟨x,x1,x2,rfl⟩:=a2q h2
 exact a2b p d x .any .any x2 x1 U.emp
theorem lifted (os:Os) (started:os.Started) (H:Type) (enc:TypeId×Value→H):
  ReturnsInHanded {} Tryz.checked os 5 .any (Rows.sweepWrongSpec.pre6 enc Tryz.prog Tryz.f5 [] false) (Rows.sweepWrongSpec.post enc Tryz.prog Tryz.f5 false true false false):=by
 refine returnsInHanded_of_change (C:=Tryz.checked) (s:=Rows.sweepWrongSpec) own started (by kernel_rfl) Tryz.func5
  (ChangeSpec.witness6 (enc:=enc) (C:=Tryz.checked) (s:=Rows.sweepWrongSpec) false ⟨#[],#[.slice none 0 0,.int .i64 0,.slice none 0 0],[]⟩ 8 (by kernel_rfl) (by kernel_rfl) (by kernel_rfl) (by kernel_rfl) (by kernel_rfl)) ?_
 intro W base args cF gs before a2y hW _ _
 exact a2k (b2:=4) laid reads rfl (by kernel_rfl) (by kernel_rfl) a2x spec ac W base args cF gs before a2y hW
theorem proved:Rows.SweepWrongSaid:=
 OpenClaim.holds_of_wide 5 Tryz.f5 rfl rfl rfl rfl rfl rfl rfl ⟨rfl,rfl,rfl,rfl,rfl⟩ rfl rfl rfl rfl rfl (by kernel_rfl) Tryz.func5 a2w
  (of_decide_eq_true (by kernel_rfl)) (by unfold Func.isWrapper;first|(rw[if_pos (by decide+kernel)];kernel_rfl)|(rw[if_neg (by decide+kernel)];exact⟨rfl,rfl⟩))
  (fun os started H enc _=>lifted os started H enc)
end Go.Proofs.YtcfpcblgmmeioaaGreat.sweepWrong
