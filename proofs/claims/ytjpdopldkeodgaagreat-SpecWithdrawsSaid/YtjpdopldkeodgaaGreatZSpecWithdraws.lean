/-
  The law SpecWithdraws of the program: it returns true for every input, and leaves its arguments as they were. No condition.
-/
import Derived.Test.YtjpdopldkeodgaaGreatRows
import Derived.Test.YtjpdopldkeodgaaGreatV11
import Derived.WalkKit
import Derived.ProofKit
import Derived.OpenShut
set_option linter.all false
namespace Go.Proofs.YtjpdopldkeodgaaGreat
open Go.ChangeShapes Go.WideShapes Go.ChangeAt Go.RowKit
theorem own:ownKnob Tryz.prog.godebug=none:=by kernel_rfl
set_option maxRecDepth 100000 in
theorem lifted (os:Os) (started:os.Started) (H:Type) (enc:TypeId×Value→H) :
  ReturnsInHanded {} Tryz.checked os 8 .any (Rows.specWithdrawsSpec.pre6 enc Tryz.prog Tryz.f8 Rows.specWithdrawsRow.domain false) (Rows.specWithdrawsSpec.post enc Tryz.prog Tryz.f8 false true false false):=by
 refine returnsInHanded_of_change (C:=Tryz.checked) own started (by kernel_rfl) Tryz.func8
  (ChangeSpec.witness6 (enc:=enc) (C:=Tryz.checked) false ⟨#[],#[.agg #[.string ⟨#[]⟩,.int .i64 0,.int .i64 0,.int .i64 0],.agg #[.int .i64 0,.int .i64 0,.int .i64 0,.slice none 0 0,.slice none 0 0,.slice none 0 0,.slice none 0 0,.bool false,.int .i64 0],.int .i64 0],[]⟩ 8 (by kernel_rfl) (by kernel_rfl) (by kernel_rfl) (by kernel_rfl)) ?_
 intro W base args ds gs before hval0 hW hcnd _
 exact Go.VS.law_contract (P:=Tryz.prog) (φ:=Go.VS.phi) (Pv:=Go.VS.P) (f:=Go.VS.z_8) (fn:=Tryz.f8) (s:=Rows.specWithdrawsSpec) (tys:=[Go.VS.Sp.tO,Go.VS.Sp.tS,Go.VS.Sp.tI]) Go.VS.mixed Go.VS.lkok Go.VS.hF Go.VS.laid (by kernel_rfl) rfl (by kernel_rfl) rfl
  (by intro H ds h;match ds,h with | [a0,a1,a2],_=>rfl) Go.VS.Sp.l_Withdraws hval0 hW
theorem qi : Tryz.pinned.checked.prog.mayEnter = true := by kernel_rfl
theorem qd : (Rows.specWithdrawsRow.named == Tryz.pinned.checked.prog.varsNamed 8) = true := by kernel_rfl
theorem qa : (Rows.specWithdrawsRow.inPlace == Tryz.pinned.checked.prog.inPlace 8) = true := by kernel_rfl
theorem qb : (Rows.specWithdrawsRow.unfollowed == Tryz.pinned.checked.prog.unfollowed 8) = true := by kernel_rfl
theorem qc : (Rows.specWithdrawsRow.recurses == Tryz.pinned.checked.prog.recurses 8) = true := by kernel_rfl
theorem qj : (Rows.specWithdrawsRow.lifted == Tryz.pinned.checked.prog.liftsFinal) = true := by kernel_rfl
theorem qk : (Tryz.pinned.checked.prog.make == some Rows.specWithdrawsRow.make) = true := by kernel_rfl
theorem qe : laidOutB Tryz.pinned.checked.prog = true := by kernel_rfl
theorem qh : Tryz.pinned.checked.prog.stopsHeard = true := by kernel_rfl
theorem closed : joinedFacts Tryz.pinned.checked.prog 8 Tryz.f8 Rows.specWithdrawsSpec Rows.specWithdrawsRow = true := by
  unfold joinedFacts
  rw [qi, qd, qa, qb, qc, qj, qk, qe, qh]
  kernel_rfl
theorem over:Rows.specWithdrawsRow.holds Tryz.pinned (OpenSpec.ofChange Rows.specWithdrawsSpec) :=
 OpenClaim.holds_of_wide 8 Tryz.f8 rfl rfl rfl rfl rfl rfl rfl ⟨rfl,rfl,rfl,rfl,rfl⟩ rfl rfl rfl rfl rfl (by kernel_rfl) Tryz.func8 closed
  (of_decide_eq_true (by kernel_rfl)) (by unfold Func.isWrapper;first | (rw [if_pos (by decide +kernel)];kernel_rfl) | (rw [if_neg (by decide +kernel)];exact ⟨rfl,rfl⟩))
  (fun os started H enc _=>lifted os started H enc)
theorem proved:Rows.SpecWithdrawsSaid:=over
end Go.Proofs.YtjpdopldkeodgaaGreat
