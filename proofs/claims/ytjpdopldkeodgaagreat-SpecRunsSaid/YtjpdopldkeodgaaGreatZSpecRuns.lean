/-
  The law SpecRuns of the program: it returns true for every input, and leaves its arguments as they were. No condition.
-/
import Derived.Test.YtjpdopldkeodgaaGreatRows
import Derived.Test.YtjpdopldkeodgaaGreatV16
import Derived.WalkKit
import Derived.ProofKit
import Derived.OpenShut
set_option linter.all false
set_option maxHeartbeats 1000000
namespace Go.Proofs.YtjpdopldkeodgaaGreat
open Go.ChangeShapes Go.WideShapes Go.ChangeAt Go.RowKit
theorem own:ownKnob Tryz.prog.godebug=none:=by kernel_rfl
set_option maxRecDepth 100000 in
theorem lifted(os:Os)(started:os.Started)(H:Type)(enc:TypeId×Value->H):
  ReturnsInHanded {} Tryz.checked os 10 .any (Rows.specRunsSpec.pre6 enc Tryz.prog Tryz.f10 Rows.specRunsRow.domain false) (Rows.specRunsSpec.post enc Tryz.prog Tryz.f10 false true false false):=by
 refine returnsInHanded_of_change (C:=Tryz.checked) own started (by kernel_rfl) Tryz.func10
  (ChangeSpec.witness6 (enc:=enc) (C:=Tryz.checked) false ⟨#[],#[.agg #[.string ⟨#[]⟩,.int .i64 0,.int .i64 0,.int .i64 0],.slice none 0 0],[]⟩ 8 (by kernel_rfl) (by kernel_rfl) (by kernel_rfl) (by kernel_rfl)) ?_
 intro W base args ds gs before atg hW ath _;exact Go.VS.ak9 (P:=Tryz.prog) (φ:=Go.VS.Oy) (Pv:=Go.VS.P) (f:=Go.VS.Em) (fn:=Tryz.f10) (s:=Rows.specRunsSpec) (tys:=[Go.VS.Sp.tO,Go.VS.Sp.tLC]) Go.VS.mixed Go.VS.Oz Go.VS.hF Go.VS.laid (by kernel_rfl) rfl (by kernel_rfl) rfl
  (by intro H ds h;match ds,h with | [a0,a1],_=>rfl) Go.VS.Sp.atf atg hW
theorem qi:Tryz.pinned.checked.prog.mayEnter=true:=by kernel_rfl
theorem qd:(Rows.specRunsRow.named==Tryz.pinned.checked.prog.varsNamed 10)=true:=by kernel_rfl
theorem qa:(Rows.specRunsRow.inPlace==Tryz.pinned.checked.prog.inPlace 10)=true:=by kernel_rfl
theorem qb:(Rows.specRunsRow.unfollowed==Tryz.pinned.checked.prog.unfollowed 10)=true:=by kernel_rfl
theorem qc:(Rows.specRunsRow.recurses==Tryz.pinned.checked.prog.recurses 10)=true:=by kernel_rfl
theorem qj:(Rows.specRunsRow.lifted==Tryz.pinned.checked.prog.liftsFinal)=true:=by kernel_rfl
theorem qk:(Tryz.pinned.checked.prog.make==some Rows.specRunsRow.make)=true:=by kernel_rfl
theorem qe:laidOutB Tryz.pinned.checked.prog=true:=by kernel_rfl
theorem qh:Tryz.pinned.checked.prog.stopsHeard=true:=by kernel_rfl
theorem closed:joinedFacts Tryz.pinned.checked.prog 10 Tryz.f10 Rows.specRunsSpec Rows.specRunsRow=true:=by
 unfold joinedFacts;rw[qi,qd,qa,qb,qc,qj,qk,qe,qh]
 kernel_rfl
theorem Bs:Rows.specRunsRow.holds Tryz.pinned (OpenSpec.ofChange Rows.specRunsSpec):=
 OpenClaim.holds_of_wide 10 Tryz.f10 rfl rfl rfl rfl rfl rfl rfl ⟨rfl,rfl,rfl,rfl,rfl⟩ rfl rfl rfl rfl rfl (by kernel_rfl) Tryz.func10 closed
  (of_decide_eq_true (by kernel_rfl)) (by unfold Func.isWrapper;first |(rw[if_pos (by decide +kernel)];kernel_rfl) |(rw[if_neg (by decide +kernel)];exact⟨rfl,rfl⟩))
  (λos started H enc _=>lifted os started H enc)
theorem proved:Rows.SpecRunsSaid:=Bs
end Go.Proofs.YtjpdopldkeodgaaGreat
