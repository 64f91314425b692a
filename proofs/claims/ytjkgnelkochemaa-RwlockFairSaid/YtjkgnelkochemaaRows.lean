/-
  No cell of these rows narrows 'for every input' (looked for: loops, veiled, ifaces, maps, wideKeys, modest, calm, conditions, laid).
  DERIVED. THE GIVEN ROWS OF THIS SEAT. 6 by the template 'for every input the law returns true; each argument reads behind the call as it read before'; 0 by the template 'total and deterministic' (their statements: YtjkgnelkochemaaTotals.lean).
  GIVEN WITH THE SEED: the statements are not yours to turn. If you find one false, say at which input.
  Laid BY PROGRAM, IN A SANDBOX (cutbox-rows.mjs): the forced cells as the released guide's own fill.sh prints them over the translation 1ecf5d7277173f9b… (all of the seat's roots in one cut). By AI agents, Wed Nov 11 2026. No macro, syntax, notation, axiom, sorry.
-/
import Derived.Test.YtjkgnelkochemaaChecked
import GoSem.Claim
import GoSem.ClaimJoined
import GoSem.ClaimMapViews
import Derived.JoinedTies
import Derived.KernelRfl
namespace Go.Proofs.Ytjkgnelkochemaa
/- THE CELL 'sum', in the pinned program and in every row, IS THE sha256 OF THE DUMP (.gsa) THAT YtjkgnelkochemaaProg.lean LOADS. Nothing in Lean hashes anything: it is a label: what it is worth is what the hold of that sum in a sandbox is worth. -/
noncomputable def Try.pinned : Pinned := { name := "ytjkgnelkochemaa", sum := "1ecf5d7277173f9b424257ed8423d19aad0d9865138f72c6bf6d48d4fdb274dc", checked := Try.checked }
namespace Rows
def none {H : Type} : Left H := { results := [], args := [] }

/-- 'nurserylaw17.RwlockWithdraw': WHATEVER THE INPUT: true; the input reads as it did. -/
def rwlockWithdrawSpec : ChangeSpec := { name := "rwlockWithdraw", fn := fun _ => fun
  | [d1, d2, d3] => { results := [.lit (.bool true)], args := [d1, d2, d3] }
  | _ => none }
def rwlockWithdrawRow : OpenClaim := { program := "ytjkgnelkochemaa", sum := "1ecf5d7277173f9b424257ed8423d19aad0d9865138f72c6bf6d48d4fdb274dc", func := "nursery/nurserylaw17.RwlockWithdraw", spec := "rwlockWithdraw", inPlace := ["slices.overlaps[int]"], unfollowed := true, recurses := true, apart := false }
def RwlockWithdrawSaid : Prop := rwlockWithdrawRow.holds Try.pinned (OpenSpec.ofChange rwlockWithdrawSpec)

/-- ITS FALSE NEIGHBOUR: 'it returns false'. Refute it at one input. -/
def rwlockWithdrawWrong : ChangeSpec := { name := "rwlockWithdraw", fn := fun _ => fun
  | [d1, d2, d3] => { results := [.lit (.bool false)], args := [d1, d2, d3] }
  | _ => none }
def RwlockWithdrawWrongFalsely : Prop := rwlockWithdrawRow.holds Try.pinned (OpenSpec.ofChange rwlockWithdrawWrong)

/-- 'nurserylaw17.RwlockValid': WHATEVER THE INPUT: true; the input reads as it did. -/
def rwlockValidSpec : ChangeSpec := { name := "rwlockValid", fn := fun _ => fun
  | [d1, d2] => { results := [.lit (.bool true)], args := [d1, d2] }
  | _ => none }
def rwlockValidRow : OpenClaim := { program := "ytjkgnelkochemaa", sum := "1ecf5d7277173f9b424257ed8423d19aad0d9865138f72c6bf6d48d4fdb274dc", func := "nursery/nurserylaw17.RwlockValid", spec := "rwlockValid", inPlace := ["slices.overlaps[int]"], unfollowed := true, recurses := true, apart := false }
def RwlockValidSaid : Prop := rwlockValidRow.holds Try.pinned (OpenSpec.ofChange rwlockValidSpec)

/-- ITS FALSE NEIGHBOUR: 'it returns false'. Refute it at one input. -/
def rwlockValidWrong : ChangeSpec := { name := "rwlockValid", fn := fun _ => fun
  | [d1, d2] => { results := [.lit (.bool false)], args := [d1, d2] }
  | _ => none }
def RwlockValidWrongFalsely : Prop := rwlockValidRow.holds Try.pinned (OpenSpec.ofChange rwlockValidWrong)

/-- 'nurserylaw17.RwlockApply': WHATEVER THE INPUT: true; the input reads as it did. -/
def rwlockApplySpec : ChangeSpec := { name := "rwlockApply", fn := fun _ => fun
  | [d1, d2, d3] => { results := [.lit (.bool true)], args := [d1, d2, d3] }
  | _ => none }
def rwlockApplyRow : OpenClaim := { program := "ytjkgnelkochemaa", sum := "1ecf5d7277173f9b424257ed8423d19aad0d9865138f72c6bf6d48d4fdb274dc", func := "nursery/nurserylaw17.RwlockApply", spec := "rwlockApply", inPlace := ["slices.overlaps[int]"], unfollowed := true, recurses := true, apart := false }
def RwlockApplySaid : Prop := rwlockApplyRow.holds Try.pinned (OpenSpec.ofChange rwlockApplySpec)

/-- ITS FALSE NEIGHBOUR: 'it returns false'. Refute it at one input. -/
def rwlockApplyWrong : ChangeSpec := { name := "rwlockApply", fn := fun _ => fun
  | [d1, d2, d3] => { results := [.lit (.bool false)], args := [d1, d2, d3] }
  | _ => none }
def RwlockApplyWrongFalsely : Prop := rwlockApplyRow.holds Try.pinned (OpenSpec.ofChange rwlockApplyWrong)

/-- 'nurserylaw17.RwlockUndo': WHATEVER THE INPUT: true; the input reads as it did. -/
def rwlockUndoSpec : ChangeSpec := { name := "rwlockUndo", fn := fun _ => fun
  | [d1, d2, d3, d4] => { results := [.lit (.bool true)], args := [d1, d2, d3, d4] }
  | _ => none }
def rwlockUndoRow : OpenClaim := { program := "ytjkgnelkochemaa", sum := "1ecf5d7277173f9b424257ed8423d19aad0d9865138f72c6bf6d48d4fdb274dc", func := "nursery/nurserylaw17.RwlockUndo", spec := "rwlockUndo", inPlace := ["slices.overlaps[int]"], unfollowed := true, recurses := true, apart := false }
def RwlockUndoSaid : Prop := rwlockUndoRow.holds Try.pinned (OpenSpec.ofChange rwlockUndoSpec)

/-- ITS FALSE NEIGHBOUR: 'it returns false'. Refute it at one input. -/
def rwlockUndoWrong : ChangeSpec := { name := "rwlockUndo", fn := fun _ => fun
  | [d1, d2, d3, d4] => { results := [.lit (.bool false)], args := [d1, d2, d3, d4] }
  | _ => none }
def RwlockUndoWrongFalsely : Prop := rwlockUndoRow.holds Try.pinned (OpenSpec.ofChange rwlockUndoWrong)

/-- 'nurserylaw17.RwlockProgress': WHATEVER THE INPUT: true; the input reads as it did. -/
def rwlockProgressSpec : ChangeSpec := { name := "rwlockProgress", fn := fun _ => fun
  | [d] => { results := [.lit (.bool true)], args := [d] }
  | _ => none }
def rwlockProgressRow : OpenClaim := { program := "ytjkgnelkochemaa", sum := "1ecf5d7277173f9b424257ed8423d19aad0d9865138f72c6bf6d48d4fdb274dc", func := "nursery/nurserylaw17.RwlockProgress", spec := "rwlockProgress", inPlace := ["slices.overlaps[int]"], unfollowed := true, recurses := true, apart := false }
def RwlockProgressSaid : Prop := rwlockProgressRow.holds Try.pinned (OpenSpec.ofChange rwlockProgressSpec)

/-- ITS FALSE NEIGHBOUR: 'it returns false'. Refute it at one input. -/
def rwlockProgressWrong : ChangeSpec := { name := "rwlockProgress", fn := fun _ => fun
  | [d] => { results := [.lit (.bool false)], args := [d] }
  | _ => none }
def RwlockProgressWrongFalsely : Prop := rwlockProgressRow.holds Try.pinned (OpenSpec.ofChange rwlockProgressWrong)

/-- 'nurserylaw17.RwlockFair': WHATEVER THE INPUT: true; the input reads as it did. -/
def rwlockFairSpec : ChangeSpec := { name := "rwlockFair", fn := fun _ => fun
  | [d] => { results := [.lit (.bool true)], args := [d] }
  | _ => none }
def rwlockFairRow : OpenClaim := { program := "ytjkgnelkochemaa", sum := "1ecf5d7277173f9b424257ed8423d19aad0d9865138f72c6bf6d48d4fdb274dc", func := "nursery/nurserylaw17.RwlockFair", spec := "rwlockFair", inPlace := ["slices.overlaps[int]"], unfollowed := true, recurses := true, apart := false }
def RwlockFairSaid : Prop := rwlockFairRow.holds Try.pinned (OpenSpec.ofChange rwlockFairSpec)

/-- ITS FALSE NEIGHBOUR: 'it returns false'. Refute it at one input. -/
def rwlockFairWrong : ChangeSpec := { name := "rwlockFair", fn := fun _ => fun
  | [d] => { results := [.lit (.bool false)], args := [d] }
  | _ => none }
def RwlockFairWrongFalsely : Prop := rwlockFairRow.holds Try.pinned (OpenSpec.ofChange rwlockFairWrong)

/- THE SECOND FORM. 'bulk': how many values and letters a reading holds, each counted each time it is reached (what is shared counts as often as it is met; a slice's spare places count too). A statement '..UptoSaid' is the law's where the arguments, and the package variables that the reading takes, are together of bulk at most 1048576: NARROWER than '..Said'. Prove '..Said' where nothing that the law and all that it calls make is longer than what came in: it says more and counts as full. Else prove '..UptoSaid'. A law counts once. -/
mutual
def uptoBulk {H : Type} : DataW H → Nat
  | .lit (.string bytes) => bytes.length + 1
  | .lit _ => 1
  | .nil => 1
  | .ptr d => uptoBulk d + 1
  | .slice elems spare => uptoBulkAll elems + uptoBulkAll spare + 1
  | .agg parts => uptoBulkAll parts + 1
  | .iface _ d => uptoBulk d + 1
  | .map entries => uptoBulkEntries entries + 1
  | .held _ => 1
def uptoBulkAll {H : Type} : List (DataW H) → Nat
  | [] => 0
  | d :: r => uptoBulk d + uptoBulkAll r
def uptoBulkEntries {H : Type} : List (Lit × DataW H) → Nat
  | [] => 0
  | x :: r => uptoBulkEntry x + uptoBulkEntries r
def uptoBulkEntry {H : Type} : Lit × DataW H → Nat
  | (.string bytes, d) => bytes.length + uptoBulk d + 1
  | (_, d) => uptoBulk d + 1
 end
def uptoSmall : (H : Type) → List (DataW H) → Bool := fun _ ds => decide (uptoBulkAll ds ≤ 1048576)
def OpenSpec.upto (s : _root_.Go.ChangeSpec) : _root_.Go.OpenSpec := { _root_.Go.OpenSpec.ofChange s with cond := some uptoSmall }

/-- 'nurserylaw17.RwlockWithdraw', WHERE WHAT IT READS IS OF BULK AT MOST 1048576: true; the input reads as it did. -/
def rwlockWithdrawUptoRow : OpenClaim := { program := "ytjkgnelkochemaa", sum := "1ecf5d7277173f9b424257ed8423d19aad0d9865138f72c6bf6d48d4fdb274dc", func := "nursery/nurserylaw17.RwlockWithdraw", spec := "rwlockWithdraw", inPlace := ["slices.overlaps[int]"], unfollowed := true, recurses := true, apart := false, narrowed := true }
def RwlockWithdrawUptoSaid : Prop := rwlockWithdrawUptoRow.holds Try.pinned (OpenSpec.upto rwlockWithdrawSpec)

/-- 'nurserylaw17.RwlockValid', WHERE WHAT IT READS IS OF BULK AT MOST 1048576: true; the input reads as it did. -/
def rwlockValidUptoRow : OpenClaim := { program := "ytjkgnelkochemaa", sum := "1ecf5d7277173f9b424257ed8423d19aad0d9865138f72c6bf6d48d4fdb274dc", func := "nursery/nurserylaw17.RwlockValid", spec := "rwlockValid", inPlace := ["slices.overlaps[int]"], unfollowed := true, recurses := true, apart := false, narrowed := true }
def RwlockValidUptoSaid : Prop := rwlockValidUptoRow.holds Try.pinned (OpenSpec.upto rwlockValidSpec)

/-- 'nurserylaw17.RwlockApply', WHERE WHAT IT READS IS OF BULK AT MOST 1048576: true; the input reads as it did. -/
def rwlockApplyUptoRow : OpenClaim := { program := "ytjkgnelkochemaa", sum := "1ecf5d7277173f9b424257ed8423d19aad0d9865138f72c6bf6d48d4fdb274dc", func := "nursery/nurserylaw17.RwlockApply", spec := "rwlockApply", inPlace := ["slices.overlaps[int]"], unfollowed := true, recurses := true, apart := false, narrowed := true }
def RwlockApplyUptoSaid : Prop := rwlockApplyUptoRow.holds Try.pinned (OpenSpec.upto rwlockApplySpec)

/-- 'nurserylaw17.RwlockUndo', WHERE WHAT IT READS IS OF BULK AT MOST 1048576: true; the input reads as it did. -/
def rwlockUndoUptoRow : OpenClaim := { program := "ytjkgnelkochemaa", sum := "1ecf5d7277173f9b424257ed8423d19aad0d9865138f72c6bf6d48d4fdb274dc", func := "nursery/nurserylaw17.RwlockUndo", spec := "rwlockUndo", inPlace := ["slices.overlaps[int]"], unfollowed := true, recurses := true, apart := false, narrowed := true }
def RwlockUndoUptoSaid : Prop := rwlockUndoUptoRow.holds Try.pinned (OpenSpec.upto rwlockUndoSpec)

/-- 'nurserylaw17.RwlockProgress', WHERE WHAT IT READS IS OF BULK AT MOST 1048576: true; the input reads as it did. -/
def rwlockProgressUptoRow : OpenClaim := { program := "ytjkgnelkochemaa", sum := "1ecf5d7277173f9b424257ed8423d19aad0d9865138f72c6bf6d48d4fdb274dc", func := "nursery/nurserylaw17.RwlockProgress", spec := "rwlockProgress", inPlace := ["slices.overlaps[int]"], unfollowed := true, recurses := true, apart := false, narrowed := true }
def RwlockProgressUptoSaid : Prop := rwlockProgressUptoRow.holds Try.pinned (OpenSpec.upto rwlockProgressSpec)

/-- 'nurserylaw17.RwlockFair', WHERE WHAT IT READS IS OF BULK AT MOST 1048576: true; the input reads as it did. -/
def rwlockFairUptoRow : OpenClaim := { program := "ytjkgnelkochemaa", sum := "1ecf5d7277173f9b424257ed8423d19aad0d9865138f72c6bf6d48d4fdb274dc", func := "nursery/nurserylaw17.RwlockFair", spec := "rwlockFair", inPlace := ["slices.overlaps[int]"], unfollowed := true, recurses := true, apart := false, narrowed := true }
def RwlockFairUptoSaid : Prop := rwlockFairUptoRow.holds Try.pinned (OpenSpec.upto rwlockFairSpec)

end Rows
end Go.Proofs.Ytjkgnelkochemaa
