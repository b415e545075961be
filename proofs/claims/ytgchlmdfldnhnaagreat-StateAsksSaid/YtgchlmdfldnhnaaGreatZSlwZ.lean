/-
  Proved: for every input the Go function indenturelaw21.StateAsks returns true, and each argument reads behind the call as it read before.
  Conditions: none beyond those of the given row.
-/
import Derived.Test.YtgchlmdfldnhnaaGreatRows
import Derived.Test.YtgchlmdfldnhnaaGreatMJ
import Derived.JoinedOf
set_option linter.all false
set_option maxRecDepth 100000
namespace Go.Proofs.YtgchlmdfldnhnaaGreat.stateAsks
open Go Go.bw
theorem own:ownKnob Tryz.prog.godebug=none:=by kernel_rfl
theorem laid:laidOutB Tryz.prog=true:=by kernel_rfl
theorem reads: ∀t∈Tryz.f3.params.toList,Tryz.prog.readableRec t=true∧t<Tryz.prog.types.size:=by
 rw[Tryz.params3]
 intro t Js
 simp only[a7S,a8f,or_false]at Js
 rcases Js with rfl|rfl|rfl|rfl<;>exact⟨by kernel_rfl,by decide+kernel⟩
abbrev mv:List (R→Prop):= [qE wQ,qE px,Be wS,qE (SInt .i64)]
theorem a7k:ub Tryz.prog Tryz.f3.params.toList mv:=by
 rw[Tryz.params3]
 exact⟨oz.cell (by kernel_rfl) a7c,oz.cell (by kernel_rfl) Bf,oz.agg (by kernel_rfl) a7i,oz.cell (by kernel_rfl) Jr,trivial⟩
theorem spec {H:Type} (cR:List (DataW H)) (h:cR.length=Tryz.f3.params.toList.length):Rows.stateAsksSpec.fn H cR= {results:= [.lit (.bool true)],args:=cR,vars:= []}:=by
 rw[Tryz.params3]at h
 match cR,h with
 | [_,_,_,_],_=>rfl
theorem ac (Jt:List R) (h:uc mv Jt):AC Tryz.prog 3 Jt U.emp fun r _=>r= .v (.bool true):=by
 obtain⟨a0,_,rfl,h0,jL,_,rfl,h1,a2,_,rfl,h2,a3,_,rfl,h3,rfl⟩:=h
 obtain⟨x,c3,bS,rfl⟩:=a6Y h0
 obtain⟨b,b1,rfl⟩:=a6Z h1
 obtain⟨q,q1,rfl⟩:=a7e h2
 obtain⟨n,n1,rfl⟩:=a7f h3
 exact a6K x .any b q .any .any .any n bS c3 b1 q1 n1 U.emp
theorem lifted (os:Os) (started:os.Started) (H:Type) (enc:TypeId×Value→H):
  ReturnsInHanded {} Tryz.checked os 3 .any (Rows.stateAsksSpec.pre6 enc Tryz.prog Tryz.f3 [] false) (Rows.stateAsksSpec.post enc Tryz.prog Tryz.f3 false true false false):=by
 refine returnsInHanded_of_change (C:=Tryz.checked) (s:=Rows.stateAsksSpec) own started (by kernel_rfl) Tryz.func3
  (ChangeSpec.witness6 (enc:=enc) (C:=Tryz.checked) (s:=Rows.stateAsksSpec) false ⟨#[],#[.slice none 0 0,.string ⟨#[]⟩,.agg #[.slice none 0 0,.slice none 0 0,.int .u8 0,.int .i64 0,.slice none 0 0,.int .i64 0,.bool false],.int .i64 0],[]⟩ 8 (by kernel_rfl) (by kernel_rfl) (by kernel_rfl) (by kernel_rfl) (by kernel_rfl)) ?_
 intro W base args cR gs before a7l hW _ _
 exact a6S (b6:=4) laid reads rfl (by kernel_rfl) (by kernel_rfl) a7k spec ac W base args cR gs before a7l hW
theorem proved:Rows.StateAsksSaid:=
 OpenClaim.holds_of_wide 3 Tryz.f3 rfl rfl rfl rfl rfl rfl rfl ⟨rfl,rfl,rfl,rfl,rfl⟩ rfl rfl rfl rfl rfl (by kernel_rfl) Tryz.func3 a7j
  (of_decide_eq_true (by kernel_rfl)) (by unfold Func.isWrapper;first|(rw[if_pos (by decide+kernel)];kernel_rfl)|(rw[if_neg (by decide+kernel)];exact⟨rfl,rfl⟩))
  (fun os started H enc _=>lifted os started H enc)
end Go.Proofs.YtgchlmdfldnhnaaGreat.stateAsks
