/-
  Proved: for every input the Go function indenturelaw30.DiffBack returns true, and each argument reads behind the call as it read before.
  Conditions: none beyond those of the given row.
-/
import Derived.Test.YtonldhgdjjfahaaGreatRows
import Derived.Test.YtonldhgdjjfahaaGreatMH
import Derived.JoinedOf
set_option linter.all false
set_option maxRecDepth 100000
namespace Go.Proofs.YtonldhgdjjfahaaGreat.diffBack
open Go Go.Av
theorem own:ownKnob Tryz.prog.godebug=none:=by kernel_rfl
theorem laid:laidOutB Tryz.prog=true:=by kernel_rfl
theorem reads: ∀t∈Tryz.f4.params.toList,Tryz.prog.readableRec t=true∧t<Tryz.prog.types.size:=by
 rw[Tryz.params4]
 intro t ht
 simp only[List.mem_cons,List.not_mem_nil,or_false]at ht
 rcases ht with rfl|rfl|rfl<;>exact⟨by kernel_rfl,by decide+kernel⟩
abbrev As:List (AV→Prop):= [Ee Ik,Ee La,Ee La]
theorem ras:Mj Tryz.prog Tryz.f4.params.toList As:=by
 rw[Tryz.params4]
 exact⟨RA.cell (by kernel_rfl) ZV,RA.cell (by kernel_rfl) a0q,RA.cell (by kernel_rfl) a0q,trivial⟩
theorem spec {H:Type} (ds:List (DataW H)) (h:ds.length=Tryz.f4.params.toList.length):Rows.diffBackSpec.fn H ds= {results:= [.lit (.bool true)],args:=ds,vars:= []}:=by
 rw[Tryz.params4]at h
 match ds,h with
 | [_,_,_],_=>rfl
theorem ac (sE:List AV) (h:KH As sE):AC Tryz.prog 4 sE Hp.emp fun r _=>r= .v (.bool true):=by
 obtain⟨a0,_,rfl,h0,a1,_,rfl,h1,a2,_,rfl,h2,rfl⟩:=h
 obtain⟨d,rfl⟩:=aeq h0
 obtain⟨x,xv,x1,x2,rfl⟩:=a0L h1
 obtain⟨y,yv,y1,y2,rfl⟩:=a0L h2
 exact a3O d x y xv yv .any .any x1 y1 x2 y2 Hp.emp
theorem lifted (os:Os) (started:os.Started) (H:Type) (enc:TypeId×Value→H):
  ReturnsInHanded {} Tryz.checked os 4 .any (Rows.diffBackSpec.pre6 enc Tryz.prog Tryz.f4 [] false) (Rows.diffBackSpec.post enc Tryz.prog Tryz.f4 false true false false):=by
 refine returnsInHanded_of_change (C:=Tryz.checked) (s:=Rows.diffBackSpec) own started (by kernel_rfl) Tryz.func4
  (ChangeSpec.witness6 (enc:=enc) (C:=Tryz.checked) (s:=Rows.diffBackSpec) false ⟨#[],#[.int .u8 0,.slice none 0 0,.slice none 0 0],[]⟩ 8 (by kernel_rfl) (by kernel_rfl) (by kernel_rfl) (by kernel_rfl) (by kernel_rfl)) ?_
 intro W base args ds gs before eT hW _ _
 exact a4w (tb:=4) laid reads rfl (by kernel_rfl) (by kernel_rfl) ras spec ac W base args ds gs before eT hW
theorem proved:Rows.DiffBackSaid:=
 OpenClaim.holds_of_wide 4 Tryz.f4 rfl rfl rfl rfl rfl rfl rfl ⟨rfl,rfl,rfl,rfl,rfl⟩ rfl rfl rfl rfl rfl (by kernel_rfl) Tryz.func4 (by kernel_rfl)
  (of_decide_eq_true (by kernel_rfl)) (by unfold Func.isWrapper;first|(rw[if_pos (by decide+kernel)];kernel_rfl)|(rw[if_neg (by decide+kernel)];exact⟨rfl,rfl⟩))
  (fun os started H enc _=>lifted os started H enc)
end Go.Proofs.YtonldhgdjjfahaaGreat.diffBack
