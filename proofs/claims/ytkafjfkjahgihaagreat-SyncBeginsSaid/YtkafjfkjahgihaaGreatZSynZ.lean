/-
  Proved: for every input the Go function indenturelaw32.SyncBegins returns true, and each argument reads behind the call as it read before.
  Conditions: none beyond those of the given row.
-/
import Derived.Test.YtkafjfkjahgihaaGreatRows
import Derived.Test.YtkafjfkjahgihaaGreatMJ
import Derived.JoinedOf
set_option linter.all false
set_option maxRecDepth 100000
namespace Go.Proofs.YtkafjfkjahgihaaGreat.syncBegins
open Go Go.bD
theorem own:ownKnob Tryz.prog.godebug=none:=by kernel_rfl
theorem laid:laidOutB Tryz.prog=true:=by kernel_rfl
theorem reads: ∀t∈Tryz.f3.params.toList,Tryz.prog.readableRec t=true∧t<Tryz.prog.types.size:=by
 rw[Tryz.params3]
 intro t II
 simp only[a8E,a9n,or_false]at II
 rcases II with rfl|rfl|rfl|rfl|rfl<;>exact⟨by kernel_rfl,by decide+kernel⟩
abbrev mc:List (R→Prop):= [ou wZ,Bs x1,ou wV,ou (SInt .i64),ou mZ]
theorem a7L:uo Tryz.prog Tryz.f3.params.toList mc:=by
 rw[Tryz.params3]
 exact⟨nc.cell (by kernel_rfl) a7C,nc.agg (by kernel_rfl) a7I,nc.cell (by kernel_rfl) a7J,nc.cell (by kernel_rfl) a7H,nc.cell (by kernel_rfl) x0,trivial⟩
theorem spec {H:Type} (cM:List (DataW H)) (h:cM.length=Tryz.f3.params.toList.length):Rows.syncBeginsSpec.fn H cM= {results:= [.lit (.bool true)],args:=cM,vars:= []}:=by
 rw[Tryz.params3]at h
 match cM,h with
 | [_,_,_,_,_],_=>rfl
theorem ac (IJ:List R) (h:uq mc IJ):AC Tryz.prog 3 IJ U.emp fun r _=>r= .v (.bool true):=by
 obtain⟨a0,_,rfl,h0,jw,_,rfl,h1,a2,_,rfl,h2,a3,_,rfl,h3,a4,_,rfl,h4,rfl⟩:=h
 obtain⟨x,cu,cp,rfl⟩:=a7x h0
 obtain⟨d,d1,rfl⟩:=a7E h1
 obtain⟨b,b1,rfl⟩:=a7q h2
 obtain⟨n,rfl⟩:=a7G h3
 obtain⟨y,rfl⟩:=a7F h4
 exact a7g x .any d b .any n y cp cu d1 U.emp
theorem lifted (os:Os) (started:os.Started) (H:Type) (enc:TypeId×Value→H):
  ReturnsInHanded {} Tryz.checked os 3 .any (Rows.syncBeginsSpec.pre6 enc Tryz.prog Tryz.f3 [] false) (Rows.syncBeginsSpec.post enc Tryz.prog Tryz.f3 false true false false):=by
 refine returnsInHanded_of_change (C:=Tryz.checked) (s:=Rows.syncBeginsSpec) own started (by kernel_rfl) Tryz.func3
  (ChangeSpec.witness6 (enc:=enc) (C:=Tryz.checked) (s:=Rows.syncBeginsSpec) false ⟨#[],#[.slice none 0 0,.agg (Array.replicate 32 (.int .u8 0)),.slice none 0 0,.int .i64 0,.int .u8 0],[]⟩ 8 (by kernel_rfl) (by kernel_rfl) (by kernel_rfl) (by kernel_rfl) (by kernel_rfl)) ?_
 intro W base args cM gs before a7M hW _ _
 exact a7n (b0:=4) laid reads rfl (by kernel_rfl) (by kernel_rfl) a7L spec ac W base args cM gs before a7M hW
theorem proved:Rows.SyncBeginsSaid:=
 OpenClaim.holds_of_wide 3 Tryz.f3 rfl rfl rfl rfl rfl rfl rfl ⟨rfl,rfl,rfl,rfl,rfl⟩ rfl rfl rfl rfl rfl (by kernel_rfl) Tryz.func3 a7K
  (of_decide_eq_true (by kernel_rfl)) (by unfold Func.isWrapper;first|(rw[if_pos (by decide+kernel)];kernel_rfl)|(rw[if_neg (by decide+kernel)];exact⟨rfl,rfl⟩))
  (fun os started H enc _=>lifted os started H enc)
end Go.Proofs.YtkafjfkjahgihaaGreat.syncBegins
