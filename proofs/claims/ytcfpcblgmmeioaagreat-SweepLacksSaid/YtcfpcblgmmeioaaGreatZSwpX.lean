/-
  Proved: for every input the Go function indenturelaw31.SweepLacks returns true, and each argument reads behind the call as it read before.
  Conditions: none beyond those of the given row.
-/
import Derived.Test.YtcfpcblgmmeioaaGreatRows
import Derived.Test.YtcfpcblgmmeioaaGreatMJ
import Derived.JoinedOf
set_option linter.all false
set_option maxRecDepth 100000
namespace Go.Proofs.YtcfpcblgmmeioaaGreat.sweepLacks
open Go Go.bD
theorem own:ownKnob Tryz.prog.godebug=none:=by kernel_rfl
theorem laid:laidOutB Tryz.prog=true:=by kernel_rfl
theorem reads: ∀t∈Tryz.f4.params.toList,Tryz.prog.readableRec t=true∧t<Tryz.prog.types.size:=by
 rw[Tryz.params4]
 intro t Ip
 simp only[a7J,a8J,or_false]at Ip
 rcases Ip with rfl|rfl<;>exact⟨by kernel_rfl,by decide+kernel⟩
abbrev lX:List (R→Prop):= [tX wy,tX B3]
theorem a6R:tY Tryz.prog Tryz.f4.params.toList lX:=by
 rw[Tryz.params4]
 exact⟨tW.cell (by kernel_rfl) a6L,tW.cell (by kernel_rfl) a6O,trivial⟩
theorem spec {H:Type} (cL:List (DataW H)) (h:cL.length=Tryz.f4.params.toList.length):Rows.sweepLacksSpec.fn H cL= {results:= [.lit (.bool true)],args:=cL,vars:= []}:=by
 rw[Tryz.params4]at h
 match cL,h with
 | [_,_],_=>rfl
theorem ac (Iq:List R) (h:tZ lX Iq):AC Tryz.prog 4 Iq U.emp fun r _=>r= .v (.bool true):=by
 obtain⟨a0,_,rfl,h0,ju,_,rfl,h1,rfl⟩:=h
 obtain⟨x,x1,x2,rfl⟩:=a6F h0
 obtain⟨y,y1,rfl⟩:=a6N h1
 exact a6P x y .any .any x2 x1 y1 U.emp
theorem lifted (os:Os) (started:os.Started) (H:Type) (enc:TypeId×Value→H):
  ReturnsInHanded {} Tryz.checked os 4 .any (Rows.sweepLacksSpec.pre6 enc Tryz.prog Tryz.f4 [] false) (Rows.sweepLacksSpec.post enc Tryz.prog Tryz.f4 false true false false):=by
 refine returnsInHanded_of_change (C:=Tryz.checked) (s:=Rows.sweepLacksSpec) own started (by kernel_rfl) Tryz.func4
  (ChangeSpec.witness6 (enc:=enc) (C:=Tryz.checked) (s:=Rows.sweepLacksSpec) false ⟨#[],#[.slice none 0 0,.slice none 0 0],[]⟩ 8 (by kernel_rfl) (by kernel_rfl) (by kernel_rfl) (by kernel_rfl) (by kernel_rfl)) ?_
 intro W base args cL gs before a6S hW _ _
 exact a6y (b2:=4) laid reads rfl (by kernel_rfl) (by kernel_rfl) a6R spec ac W base args cL gs before a6S hW
theorem proved:Rows.SweepLacksSaid:=
 OpenClaim.holds_of_wide 4 Tryz.f4 rfl rfl rfl rfl rfl rfl rfl ⟨rfl,rfl,rfl,rfl,rfl⟩ rfl rfl rfl rfl rfl (by kernel_rfl) Tryz.func4 a6Q
  (of_decide_eq_true (by kernel_rfl)) (by unfold Func.isWrapper;first|(rw[if_pos (by decide+kernel)];kernel_rfl)|(rw[if_neg (by decide+kernel)];exact⟨rfl,rfl⟩))
  (fun os started H enc _=>lifted os started H enc)
end Go.Proofs.YtcfpcblgmmeioaaGreat.sweepLacks
