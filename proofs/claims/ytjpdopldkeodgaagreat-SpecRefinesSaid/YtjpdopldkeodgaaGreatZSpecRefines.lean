/-
  The law SpecRefines of the program: it returns true for every input, and leaves its arguments as they were. No condition.
-/
import Derived.Test.YtjpdopldkeodgaaGreatRows
import Derived.Test.YtjpdopldkeodgaaGreatV16
import Derived.WalkKit
import Derived.ProofKit
import Derived.OpenShut
set_option linter.all false
set_option maxHeartbeats 1000000
namespace Go.Proofs.YtjpdopldkeodgaaGreat
open Go.ChangeShapes Go.WideShapes Go.ChangeAt Go.RowKit
theorem own:ownKnob Tryz.prog.godebug=none:=by kernel_rfl
set_option maxRecDepth 100000 in
theorem lifted(os:Os)(started:os.Started)(H:Type)(enc:TypeId×Value->H):
  ReturnsInHanded {} Tryz.checked os 11 .any (Rows.specRefinesSpec.pre6 enc Tryz.prog Tryz.f11 Rows.specRefinesRow.domain false) (Rows.specRefinesSpec.post enc Tryz.prog Tryz.f11 false true false false):=by
 refine returnsInHanded_of_change (C:=Tryz.checked) own started (by kernel_rfl) Tryz.func11
  (ChangeSpec.witness6 (enc:=enc) (C:=Tryz.checked) false ⟨#[],#[.agg #[.string ⟨#[]⟩,.int .i64 0,.int .i64 0,.int .i64 0],.agg #[.int .i64 0,.int .i64 0,.int .i64 0,.slice none 0 0,.slice none 0 0,.slice none 0 0,.slice none 0 0,.bool false,.int .i64 0],.agg #[.int .i64 0,.int .i64 0,.int .i64 0,.int .i64 0,.int .i64 0]],[]⟩ 8 (by kernel_rfl) (by kernel_rfl) (by kernel_rfl) (by kernel_rfl)) ?_
 intro W base args ds gs before aty hW atz _;exact Go.VS.alB (P:=Tryz.prog) (φ:=Go.VS.Ou) (Pv:=Go.VS.P) (f:=Go.VS.Ed) (fn:=Tryz.f11) (s:=Rows.specRefinesSpec) (tys:=[Go.VS.Sp.tO,Go.VS.Sp.tS,Go.VS.Sp.tC]) Go.VS.mixed Go.VS.Ov Go.VS.hF Go.VS.laid (by kernel_rfl) rfl (by kernel_rfl) rfl
  (by intro H ds h;match ds,h with | [a0,a1,a2],_=>rfl) Go.VS.Sp.atx aty hW
theorem qi:Tryz.pinned.checked.prog.mayEnter=true:=by kernel_rfl
theorem qd:(Rows.specRefinesRow.named==Tryz.pinned.checked.prog.varsNamed 11)=true:=by kernel_rfl
theorem qa:(Rows.specRefinesRow.inPlace==Tryz.pinned.checked.prog.inPlace 11)=true:=by kernel_rfl
theorem qb:(Rows.specRefinesRow.unfollowed==Tryz.pinned.checked.prog.unfollowed 11)=true:=by kernel_rfl
theorem qc:(Rows.specRefinesRow.recurses==Tryz.pinned.checked.prog.recurses 11)=true:=by kernel_rfl
theorem qj:(Rows.specRefinesRow.lifted==Tryz.pinned.checked.prog.liftsFinal)=true:=by kernel_rfl
theorem qk:(Tryz.pinned.checked.prog.make==some Rows.specRefinesRow.make)=true:=by kernel_rfl
theorem qe:laidOutB Tryz.pinned.checked.prog=true:=by kernel_rfl
theorem qh:Tryz.pinned.checked.prog.stopsHeard=true:=by kernel_rfl
theorem closed:joinedFacts Tryz.pinned.checked.prog 11 Tryz.f11 Rows.specRefinesSpec Rows.specRefinesRow=true:=by
 unfold joinedFacts;rw[qi,qd,qa,qb,qc,qj,qk,qe,qh]
 kernel_rfl
theorem Bj:Rows.specRefinesRow.holds Tryz.pinned (OpenSpec.ofChange Rows.specRefinesSpec):=
 OpenClaim.holds_of_wide 11 Tryz.f11 rfl rfl rfl rfl rfl rfl rfl ⟨rfl,rfl,rfl,rfl,rfl⟩ rfl rfl rfl rfl rfl (by kernel_rfl) Tryz.func11 closed
  (of_decide_eq_true (by kernel_rfl)) (by unfold Func.isWrapper;first |(rw[if_pos (by decide +kernel)];kernel_rfl) |(rw[if_neg (by decide +kernel)];exact⟨rfl,rfl⟩))
  (λos started H enc _=>lifted os started H enc)
theorem proved:Rows.SpecRefinesSaid:=Bj
end Go.Proofs.YtjpdopldkeodgaaGreat
