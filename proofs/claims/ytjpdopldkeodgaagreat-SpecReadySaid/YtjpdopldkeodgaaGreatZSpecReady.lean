/-
  The law SpecReady of the program: it returns true for every input, and leaves its arguments as they were. No condition.
-/
import Derived.Test.YtjpdopldkeodgaaGreatRows
import Derived.Test.YtjpdopldkeodgaaGreatV12
import Derived.WalkKit
import Derived.ProofKit
import Derived.OpenShut
set_option linter.all false
namespace Go.Proofs.YtjpdopldkeodgaaGreat
open Go.ChangeShapes Go.WideShapes Go.ChangeAt Go.RowKit
theorem own:ownKnob Tryz.prog.godebug=none:=by kernel_rfl
set_option maxRecDepth 100000 in
theorem lifted (os:Os) (started:os.Started) (H:Type) (enc:TypeId×Value→H) :
  ReturnsInHanded {} Tryz.checked os 9 .any (Rows.specReadySpec.pre6 enc Tryz.prog Tryz.f9 Rows.specReadyRow.domain false) (Rows.specReadySpec.post enc Tryz.prog Tryz.f9 false true false false):=by
 refine returnsInHanded_of_change (C:=Tryz.checked) own started (by kernel_rfl) Tryz.func9
  (ChangeSpec.witness6 (enc:=enc) (C:=Tryz.checked) false ⟨#[],#[.agg #[.string ⟨#[]⟩,.int .i64 0,.int .i64 0,.int .i64 0],.agg #[.int .i64 0,.int .i64 0,.int .i64 0,.slice none 0 0,.slice none 0 0,.slice none 0 0,.slice none 0 0,.bool false,.int .i64 0],.agg #[.int .i64 0,.int .i64 0,.int .i64 0,.int .i64 0,.int .i64 0]],[]⟩ 8 (by kernel_rfl) (by kernel_rfl) (by kernel_rfl) (by kernel_rfl)) ?_
 intro W base args ds gs before hval0 hW hcnd _
 exact Go.VS.law_contract (P:=Tryz.prog) (φ:=Go.VS.phi) (Pv:=Go.VS.P) (f:=Go.VS.z_9) (fn:=Tryz.f9) (s:=Rows.specReadySpec) (tys:=[Go.VS.Sp.tO,Go.VS.Sp.tS,Go.VS.Sp.tC]) Go.VS.mixed Go.VS.lkok Go.VS.hF Go.VS.laid (by kernel_rfl) rfl (by kernel_rfl) rfl
  (by intro H ds h;match ds,h with | [a0,a1,a2],_=>rfl) Go.VS.Sp.l_Ready hval0 hW
theorem qi : Tryz.pinned.checked.prog.mayEnter = true := by kernel_rfl
theorem qd : (Rows.specReadyRow.named == Tryz.pinned.checked.prog.varsNamed 9) = true := by kernel_rfl
theorem qa : (Rows.specReadyRow.inPlace == Tryz.pinned.checked.prog.inPlace 9) = true := by kernel_rfl
theorem qb : (Rows.specReadyRow.unfollowed == Tryz.pinned.checked.prog.unfollowed 9) = true := by kernel_rfl
theorem qc : (Rows.specReadyRow.recurses == Tryz.pinned.checked.prog.recurses 9) = true := by kernel_rfl
theorem qj : (Rows.specReadyRow.lifted == Tryz.pinned.checked.prog.liftsFinal) = true := by kernel_rfl
theorem qk : (Tryz.pinned.checked.prog.make == some Rows.specReadyRow.make) = true := by kernel_rfl
theorem qe : laidOutB Tryz.pinned.checked.prog = true := by kernel_rfl
theorem qh : Tryz.pinned.checked.prog.stopsHeard = true := by kernel_rfl
theorem closed : joinedFacts Tryz.pinned.checked.prog 9 Tryz.f9 Rows.specReadySpec Rows.specReadyRow = true := by
  unfold joinedFacts
  rw [qi, qd, qa, qb, qc, qj, qk, qe, qh]
  kernel_rfl
theorem over:Rows.specReadyRow.holds Tryz.pinned (OpenSpec.ofChange Rows.specReadySpec) :=
 OpenClaim.holds_of_wide 9 Tryz.f9 rfl rfl rfl rfl rfl rfl rfl ⟨rfl,rfl,rfl,rfl,rfl⟩ rfl rfl rfl rfl rfl (by kernel_rfl) Tryz.func9 closed
  (of_decide_eq_true (by kernel_rfl)) (by unfold Func.isWrapper;first | (rw [if_pos (by decide +kernel)];kernel_rfl) | (rw [if_neg (by decide +kernel)];exact ⟨rfl,rfl⟩))
  (fun os started H enc _=>lifted os started H enc)
theorem proved:Rows.SpecReadySaid:=over
end Go.Proofs.YtjpdopldkeodgaaGreat
