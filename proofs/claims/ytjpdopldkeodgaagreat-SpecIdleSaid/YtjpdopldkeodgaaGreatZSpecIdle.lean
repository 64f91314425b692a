/-
  The law SpecIdle of the program: it returns true for every input, and leaves its arguments as they were. No condition.
-/
import Derived.Test.YtjpdopldkeodgaaGreatRows
import Derived.Test.YtjpdopldkeodgaaGreatV10
import Derived.WalkKit
import Derived.ProofKit
import Derived.OpenShut
set_option linter.all false
set_option maxHeartbeats 1000000
namespace Go.Proofs.YtjpdopldkeodgaaGreat
open Go.ChangeShapes Go.WideShapes Go.ChangeAt Go.RowKit
theorem own:ownKnob Tryz.prog.godebug=none:=by kernel_rfl
set_option maxRecDepth 100000 in
theorem lifted(os:Os)(started:os.Started)(H:Type)(enc:TypeId×Value->H):
  ReturnsInHanded {} Tryz.checked os 12 .any (Rows.specIdleSpec.pre6 enc Tryz.prog Tryz.f12 Rows.specIdleRow.domain false) (Rows.specIdleSpec.post enc Tryz.prog Tryz.f12 false true false false):=by
 refine returnsInHanded_of_change (C:=Tryz.checked) own started (by kernel_rfl) Tryz.func12
  (ChangeSpec.witness6 (enc:=enc) (C:=Tryz.checked) false ⟨#[],#[.agg #[.string ⟨#[]⟩,.int .i64 0,.int .i64 0,.int .i64 0],.agg #[.int .i64 0,.int .i64 0,.int .i64 0,.slice none 0 0,.slice none 0 0,.slice none 0 0,.slice none 0 0,.bool false,.int .i64 0],.agg #[.int .i64 0,.int .i64 0,.int .i64 0,.int .i64 0,.int .i64 0],.int .i64 0],[]⟩ 8 (by kernel_rfl) (by kernel_rfl) (by kernel_rfl) (by kernel_rfl)) ?_
 intro W base args ds gs before auy hW auz _;exact Go.VS.ame (P:=Tryz.prog) (φ:=Go.VS.Pd) (Pv:=Go.VS.P) (f:=Go.VS.EC) (fn:=Tryz.f12) (s:=Rows.specIdleSpec) (tys:=[Go.VS.Sp.tO,Go.VS.Sp.tS,Go.VS.Sp.tC,Go.VS.Sp.tI]) Go.VS.mixed Go.VS.Pe Go.VS.hF Go.VS.laid (by kernel_rfl) rfl (by kernel_rfl) rfl
  (by intro H ds h;match ds,h with | [a0,a1,a2,a3],_=>rfl) Go.VS.Sp.auw auy hW
theorem qi:Tryz.pinned.checked.prog.mayEnter=true:=by kernel_rfl
theorem qd:(Rows.specIdleRow.named==Tryz.pinned.checked.prog.varsNamed 12)=true:=by kernel_rfl
theorem qa:(Rows.specIdleRow.inPlace==Tryz.pinned.checked.prog.inPlace 12)=true:=by kernel_rfl
theorem qb:(Rows.specIdleRow.unfollowed==Tryz.pinned.checked.prog.unfollowed 12)=true:=by kernel_rfl
theorem qc:(Rows.specIdleRow.recurses==Tryz.pinned.checked.prog.recurses 12)=true:=by kernel_rfl
theorem qj:(Rows.specIdleRow.lifted==Tryz.pinned.checked.prog.liftsFinal)=true:=by kernel_rfl
theorem qk:(Tryz.pinned.checked.prog.make==some Rows.specIdleRow.make)=true:=by kernel_rfl
theorem qe:laidOutB Tryz.pinned.checked.prog=true:=by kernel_rfl
theorem qh:Tryz.pinned.checked.prog.stopsHeard=true:=by kernel_rfl
theorem closed:joinedFacts Tryz.pinned.checked.prog 12 Tryz.f12 Rows.specIdleSpec Rows.specIdleRow=true:=by
 unfold joinedFacts;rw[qi,qd,qa,qb,qc,qj,qk,qe,qh]
 kernel_rfl
theorem BM:Rows.specIdleRow.holds Tryz.pinned (OpenSpec.ofChange Rows.specIdleSpec):=
 OpenClaim.holds_of_wide 12 Tryz.f12 rfl rfl rfl rfl rfl rfl rfl ⟨rfl,rfl,rfl,rfl,rfl⟩ rfl rfl rfl rfl rfl (by kernel_rfl) Tryz.func12 closed
  (of_decide_eq_true (by kernel_rfl)) (by unfold Func.isWrapper;first |(rw[if_pos (by decide +kernel)];kernel_rfl) |(rw[if_neg (by decide +kernel)];exact⟨rfl,rfl⟩))
  (λos started H enc _=>lifted os started H enc)
theorem proved:Rows.SpecIdleSaid:=BM
end Go.Proofs.YtjpdopldkeodgaaGreat
