/-
  The law MutexWithdraws of the program: it returns true for every input, and leaves its arguments as they were. No condition.
-/
import Derived.Test.YtjjkiaahcoiihaaRows
import Derived.Test.YtjjkiaahcoiihaaV07
import Derived.WalkKit
import Derived.ProofKit
import Derived.OpenShut
set_option linter.all false
namespace Go.Proofs.Ytjjkiaahcoiihaa
open Go.ChangeShapes Go.WideShapes Go.ChangeAt Go.RowKit
theorem own : ownKnob Try.prog.godebug = none := by kernel_rfl
set_option maxRecDepth 100000 in
theorem lifted (os : Os) (started : os.Started) (H : Type) (enc : TypeId × Value → H) :
    ReturnsInHanded {} Try.checked os 9 .any (Rows.mutexWithdrawsSpec.pre6 enc Try.prog Try.f9 Rows.mutexWithdrawsRow.domain false) (Rows.mutexWithdrawsSpec.post enc Try.prog Try.f9 false true false false) := by
  refine returnsInHanded_of_change (C := Try.checked) own started (by kernel_rfl) Try.func9
    (ChangeSpec.witness6 (enc := enc) (C := Try.checked) false ⟨#[], #[.agg #[.int .i64 0, .int .i64 0, .int .i64 0, .slice none 0 0, .slice none 0 0, .slice none 0 0, .slice none 0 0, .bool false, .int .i64 0], .agg #[.int .i64 0, .int .i64 0, .int .i64 0, .int .i64 0, .int .i64 0], .slice none 0 0], []⟩ 8 (by kernel_rfl) (by kernel_rfl) (by kernel_rfl) (by kernel_rfl)) ?_
  intro W base args ds gs before hval0 hW hcnd _
  exact Go.VS.law_contract (P := Try.prog) (φ := Go.VS.phi) (Pv := Go.VS.P) (f := Go.VS.nurserylaw16_MutexWithdraws) (fn := Try.f9) (s := Rows.mutexWithdrawsSpec) (tys := [Go.VS.M.tS, Go.VS.M.tC, Go.VS.M.tLC]) Go.VS.mixed Go.VS.lkok Go.VS.hF Go.VS.laid (by kernel_rfl) rfl (by kernel_rfl) rfl
    (by intro H ds h; match ds, h with | [a0, a1, a2], _ => rfl) Go.VS.M.l_Withdraws hval0 hW
theorem over : Rows.mutexWithdrawsRow.holds Try.pinned (OpenSpec.ofChange Rows.mutexWithdrawsSpec) :=
  OpenClaim.holds_of_wide 9 Try.f9 rfl rfl rfl rfl rfl rfl rfl ⟨rfl, rfl, rfl, rfl, rfl⟩ rfl rfl rfl rfl rfl (by kernel_rfl) Try.func9 (by kernel_rfl)
    (of_decide_eq_true (by kernel_rfl)) (by unfold Func.isWrapper; first | (rw [if_pos (by decide +kernel)]; kernel_rfl) | (rw [if_neg (by decide +kernel)]; exact ⟨rfl, rfl⟩))
    (fun os started H enc _ => lifted os started H enc)
theorem proved : Rows.MutexWithdrawsSaid := over
end Go.Proofs.Ytjjkiaahcoiihaa
