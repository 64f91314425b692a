/-
  The law RwlockProgress of the program: it returns true for every input, and leaves its arguments as they were. No condition.
-/
import Derived.Test.YtjkgnelkochemaaRows
import Derived.Test.YtjkgnelkochemaaV09
import Derived.WalkKit
import Derived.ProofKit
import Derived.OpenShut
set_option linter.all false
namespace Go.Proofs.Ytjkgnelkochemaa
open Go.ChangeShapes Go.WideShapes Go.ChangeAt Go.RowKit
theorem own : ownKnob Try.prog.godebug = none := by kernel_rfl
set_option maxRecDepth 100000 in
theorem lifted (os : Os) (started : os.Started) (H : Type) (enc : TypeId × Value → H) :
    ReturnsInHanded {} Try.checked os 7 .any (Rows.rwlockProgressSpec.pre6 enc Try.prog Try.f7 Rows.rwlockProgressRow.domain false) (Rows.rwlockProgressSpec.post enc Try.prog Try.f7 false true false false) := by
  refine returnsInHanded_of_change (C := Try.checked) own started (by kernel_rfl) Try.func7
    (ChangeSpec.witness6 (enc := enc) (C := Try.checked) false ⟨#[], #[.agg #[.int .i64 0, .int .i64 0, .int .i64 0, .slice none 0 0, .slice none 0 0, .slice none 0 0, .slice none 0 0, .bool false, .int .i64 0]], []⟩ 8 (by kernel_rfl) (by kernel_rfl) (by kernel_rfl) (by kernel_rfl)) ?_
  intro W base args ds gs before hval0 hW hcnd _
  exact Go.VS.law_contract (P := Try.prog) (φ := fun n => n) (Pv := Go.VS.P) (f := Go.VS.nurserylaw17_RwlockProgress) (fn := Try.f7) (s := Rows.rwlockProgressSpec) (tys := [Go.VS.R.tS]) Go.VS.mixed Go.VS.hF Go.VS.laid (by kernel_rfl) rfl (by kernel_rfl) rfl
    (by intro H ds h; match ds, h with | [a0], _ => rfl) Go.VS.R.l_Progress hval0 hW
theorem over : Rows.rwlockProgressRow.holds Try.pinned (OpenSpec.ofChange Rows.rwlockProgressSpec) :=
  OpenClaim.holds_of_wide 7 Try.f7 rfl rfl rfl rfl rfl rfl rfl ⟨rfl, rfl, rfl, rfl, rfl⟩ rfl rfl rfl rfl rfl (by kernel_rfl) Try.func7 (by kernel_rfl)
    (of_decide_eq_true (by kernel_rfl)) (by unfold Func.isWrapper; first | (rw [if_pos (by decide +kernel)]; kernel_rfl) | (rw [if_neg (by decide +kernel)]; exact ⟨rfl, rfl⟩))
    (fun os started H enc _ => lifted os started H enc)
theorem proved : Rows.RwlockProgressSaid := over
end Go.Proofs.Ytjkgnelkochemaa
