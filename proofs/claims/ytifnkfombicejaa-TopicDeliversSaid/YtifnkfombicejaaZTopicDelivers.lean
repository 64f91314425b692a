/-
  The law TopicDelivers of the program: it returns true for every input, and leaves its arguments as they were. No condition.
-/
import Derived.Test.YtifnkfombicejaaRows
import Derived.Test.YtifnkfombicejaaV11
import Derived.WalkKit
import Derived.ProofKit
import Derived.OpenShut
set_option linter.all false
set_option maxHeartbeats 1000000
namespace Go.Proofs.Ytifnkfombicejaa
open Go.ChangeShapes Go.WideShapes Go.ChangeAt Go.RowKit
theorem own:ownKnob Try.prog.godebug=none:=by kernel_rfl
set_option maxRecDepth 100000 in
theorem lifted(os:Os)(started:os.Started)(H:Type)(enc:TypeId×Value->H):
  ReturnsInHanded {} Try.checked os 9 .any (Rows.topicDeliversSpec.pre6 enc Try.prog Try.f9 Rows.topicDeliversRow.domain false) (Rows.topicDeliversSpec.post enc Try.prog Try.f9 false true false false):=by
 refine returnsInHanded_of_change (C:=Try.checked) own started (by kernel_rfl) Try.func9
  (ChangeSpec.witness6 (enc:=enc) (C:=Try.checked) false ⟨#[],#[.agg #[.string ⟨#[]⟩,.int .i64 0,.int .i64 0,.int .i64 0],.slice none 0 0],[]⟩ 8 (by kernel_rfl) (by kernel_rfl) (by kernel_rfl) (by kernel_rfl)) ?_
 intro W base args ds gs before WR hW Zt _;exact Go.VS.Wi (P:=Try.prog) (φ:=Go.VS.Ec) (Pv:=Go.VS.P) (f:=Go.VS.Cc) (fn:=Try.f9) (s:=Rows.topicDeliversSpec) (tys:=[Go.VS.Tp.tO,Go.VS.Tp.IS]) Go.VS.mixed Go.VS.N6 Go.VS.hF Go.VS.laid (by kernel_rfl) rfl (by kernel_rfl) rfl
  (by intro H ds h;match ds,h with | [a0,a1],_=>rfl) Go.VS.Tp.WQ WR hW
theorem qi:Try.pinned.checked.prog.mayEnter=true:=by kernel_rfl
theorem qd:(Rows.topicDeliversRow.named==Try.pinned.checked.prog.varsNamed 9)=true:=by kernel_rfl
theorem qa:(Rows.topicDeliversRow.inPlace==Try.pinned.checked.prog.inPlace 9)=true:=by kernel_rfl
theorem qb:(Rows.topicDeliversRow.unfollowed==Try.pinned.checked.prog.unfollowed 9)=true:=by kernel_rfl
theorem qc:(Rows.topicDeliversRow.recurses==Try.pinned.checked.prog.recurses 9)=true:=by kernel_rfl
theorem qj:(Rows.topicDeliversRow.lifted==Try.pinned.checked.prog.liftsFinal)=true:=by kernel_rfl
theorem qk:(Try.pinned.checked.prog.make==some Rows.topicDeliversRow.make)=true:=by kernel_rfl
theorem qe:laidOutB Try.pinned.checked.prog=true:=by kernel_rfl
theorem qh:Try.pinned.checked.prog.stopsHeard=true:=by kernel_rfl
theorem closed:joinedFacts Try.pinned.checked.prog 9 Try.f9 Rows.topicDeliversSpec Rows.topicDeliversRow=true:=by
 unfold joinedFacts;rw[qi,qd,qa,qb,qc,qj,qk,qe,qh]
 kernel_rfl
theorem sG:Rows.topicDeliversRow.holds Try.pinned (OpenSpec.ofChange Rows.topicDeliversSpec):=
 OpenClaim.holds_of_wide 9 Try.f9 rfl rfl rfl rfl rfl rfl rfl ⟨rfl,rfl,rfl,rfl,rfl⟩ rfl rfl rfl rfl rfl (by kernel_rfl) Try.func9 closed
  (of_decide_eq_true (by kernel_rfl)) (by unfold Func.isWrapper;first |(rw[if_pos (by decide +kernel)];kernel_rfl) |(rw[if_neg (by decide +kernel)];exact⟨rfl,rfl⟩))
  (λos started H enc _=>lifted os started H enc)
theorem proved:Rows.TopicDeliversSaid:=sG
end Go.Proofs.Ytifnkfombicejaa
