/-
  The law TimersExpire of the program: it returns true for every input, and leaves its arguments as they were. No condition.
-/
import Derived.Test.YtiiegkaonlkgjaaRows
import Derived.Test.YtiiegkaonlkgjaaV08
import Derived.WalkKit
import Derived.ProofKit
import Derived.OpenShut
set_option linter.all false
namespace Go.Proofs.Ytiiegkaonlkgjaa
open Go.ChangeShapes Go.WideShapes Go.ChangeAt Go.RowKit
theorem own : ownKnob Try.prog.godebug = none := by kernel_rfl
set_option maxRecDepth 100000 in
theorem lifted (os : Os) (started : os.Started) (H : Type) (enc : TypeId × Value → H) :
    ReturnsInHanded {} Try.checked os 10 .any (Rows.timersExpireSpec.pre6 enc Try.prog Try.f10 Rows.timersExpireRow.domain false) (Rows.timersExpireSpec.post enc Try.prog Try.f10 false true false false) := by
  refine returnsInHanded_of_change (C := Try.checked) own started (by kernel_rfl) Try.func10
    (ChangeSpec.witness6 (enc := enc) (C := Try.checked) false ⟨#[], #[.slice none 0 0, .int .i64 0, .int .i64 0], []⟩ 8 (by kernel_rfl) (by kernel_rfl) (by kernel_rfl) (by kernel_rfl)) ?_
  intro W base args ds gs before hval0 hW hcnd _
  exact Go.VS.law_contract (P := Try.prog) (φ := Go.VS.phi) (Pv := Go.VS.P) (f := Go.VS.nurserylaw06_TimersExpire) (fn := Try.f10) (s := Rows.timersExpireSpec) (tys := [Go.VS.Tm.tL, Go.VS.Tm.tI, Go.VS.Tm.tI]) Go.VS.mixed Go.VS.lkok Go.VS.hF Go.VS.laid (by kernel_rfl) rfl (by kernel_rfl) rfl
    (by intro H ds h; match ds, h with | [a0, a1, a2], _ => rfl) Go.VS.Tm.l_Expire hval0 hW
theorem over : Rows.timersExpireRow.holds Try.pinned (OpenSpec.ofChange Rows.timersExpireSpec) :=
  OpenClaim.holds_of_wide 10 Try.f10 rfl rfl rfl rfl rfl rfl rfl ⟨rfl, rfl, rfl, rfl, rfl⟩ rfl rfl rfl rfl rfl (by kernel_rfl) Try.func10 (by kernel_rfl)
    (of_decide_eq_true (by kernel_rfl)) (by unfold Func.isWrapper; first | (rw [if_pos (by decide +kernel)]; kernel_rfl) | (rw [if_neg (by decide +kernel)]; exact ⟨rfl, rfl⟩))
    (fun os started H enc _ => lifted os started H enc)
theorem proved : Rows.TimersExpireSaid := over
end Go.Proofs.Ytiiegkaonlkgjaa
