/-
  No cell of these rows narrows 'for every input' (looked for: loops, veiled, ifaces, maps, wideKeys, modest, calm, conditions, laid).
  DERIVED. THE GIVEN ROWS OF THIS SEAT. 7 by the template 'for every input the law returns true; each argument reads behind the call as it read before'; 0 by the template 'total and deterministic' (their statements: YtifnkfombicejaaTotals.lean).
  GIVEN WITH THE SEED: the statements are not yours to turn. If you find one false, say at which input.
  Laid BY PROGRAM, IN A SANDBOX (cutbox-rows.mjs): the forced cells as the released guide's own fill.sh prints them over the translation a0f7d0afbd158612… (all of the seat's roots in one cut). By AI agents, Wed Nov 11 2026. No macro, syntax, notation, axiom, sorry.
-/
import Derived.Test.YtifnkfombicejaaChecked
import GoSem.Claim
import GoSem.ClaimJoined
import GoSem.ClaimMapViews
import Derived.JoinedTies
import Derived.KernelRfl
namespace Go.Proofs.Ytifnkfombicejaa
/- THE CELL 'sum', in the pinned program and in every row, IS THE sha256 OF THE DUMP (.gsa) THAT YtifnkfombicejaaProg.lean LOADS. Nothing in Lean hashes anything: it is a label: what it is worth is what the hold of that sum in a sandbox is worth. -/
noncomputable def Try.pinned : Pinned := { name := "ytifnkfombicejaa", sum := "a0f7d0afbd15861272317c6a879bd194548f3bdd9123924ea94b97c72608452a", checked := Try.checked }
namespace Rows
def none {H : Type} : Left H := { results := [], args := [] }

/-- 'nurserylaw23.TopicApply': WHATEVER THE INPUT: true; the input reads as it did. -/
def topicApplySpec : ChangeSpec := { name := "topicApply", fn := fun _ => fun
  | [d1, d2, d3] => { results := [.lit (.bool true)], args := [d1, d2, d3] }
  | _ => none }
def topicApplyRow : OpenClaim := { program := "ytifnkfombicejaa", sum := "a0f7d0afbd15861272317c6a879bd194548f3bdd9123924ea94b97c72608452a", func := "nursery/nurserylaw23.TopicApply", spec := "topicApply", inPlace := ["slices.overlaps[nursery/api.Cursor]"], unfollowed := true, recurses := true, apart := false }
def TopicApplySaid : Prop := topicApplyRow.holds Try.pinned (OpenSpec.ofChange topicApplySpec)

/-- ITS FALSE NEIGHBOUR: 'it returns false'. Refute it at one input. -/
def topicApplyWrong : ChangeSpec := { name := "topicApply", fn := fun _ => fun
  | [d1, d2, d3] => { results := [.lit (.bool false)], args := [d1, d2, d3] }
  | _ => none }
def TopicApplyWrongFalsely : Prop := topicApplyRow.holds Try.pinned (OpenSpec.ofChange topicApplyWrong)

/-- 'nurserylaw23.TopicLeaves': WHATEVER THE INPUT: true; the input reads as it did. -/
def topicLeavesSpec : ChangeSpec := { name := "topicLeaves", fn := fun _ => fun
  | [d1, d2] => { results := [.lit (.bool true)], args := [d1, d2] }
  | _ => none }
def topicLeavesRow : OpenClaim := { program := "ytifnkfombicejaa", sum := "a0f7d0afbd15861272317c6a879bd194548f3bdd9123924ea94b97c72608452a", func := "nursery/nurserylaw23.TopicLeaves", spec := "topicLeaves", inPlace := ["slices.overlaps[nursery/api.Cursor]"], unfollowed := true, recurses := true, apart := false }
def TopicLeavesSaid : Prop := topicLeavesRow.holds Try.pinned (OpenSpec.ofChange topicLeavesSpec)

/-- ITS FALSE NEIGHBOUR: 'it returns false'. Refute it at one input. -/
def topicLeavesWrong : ChangeSpec := { name := "topicLeaves", fn := fun _ => fun
  | [d1, d2] => { results := [.lit (.bool false)], args := [d1, d2] }
  | _ => none }
def TopicLeavesWrongFalsely : Prop := topicLeavesRow.holds Try.pinned (OpenSpec.ofChange topicLeavesWrong)

/-- 'nurserylaw23.TopicReads': WHATEVER THE INPUT: true; the input reads as it did. -/
def topicReadsSpec : ChangeSpec := { name := "topicReads", fn := fun _ => fun
  | [d1, d2] => { results := [.lit (.bool true)], args := [d1, d2] }
  | _ => none }
def topicReadsRow : OpenClaim := { program := "ytifnkfombicejaa", sum := "a0f7d0afbd15861272317c6a879bd194548f3bdd9123924ea94b97c72608452a", func := "nursery/nurserylaw23.TopicReads", spec := "topicReads", inPlace := ["slices.overlaps[nursery/api.Cursor]"], unfollowed := true, recurses := true, apart := false }
def TopicReadsSaid : Prop := topicReadsRow.holds Try.pinned (OpenSpec.ofChange topicReadsSpec)

/-- ITS FALSE NEIGHBOUR: 'it returns false'. Refute it at one input. -/
def topicReadsWrong : ChangeSpec := { name := "topicReads", fn := fun _ => fun
  | [d1, d2] => { results := [.lit (.bool false)], args := [d1, d2] }
  | _ => none }
def TopicReadsWrongFalsely : Prop := topicReadsRow.holds Try.pinned (OpenSpec.ofChange topicReadsWrong)

/-- 'nurserylaw23.TopicValid': WHATEVER THE INPUT: true; the input reads as it did. -/
def topicValidSpec : ChangeSpec := { name := "topicValid", fn := fun _ => fun
  | [d1, d2, d3, d4] => { results := [.lit (.bool true)], args := [d1, d2, d3, d4] }
  | _ => none }
def topicValidRow : OpenClaim := { program := "ytifnkfombicejaa", sum := "a0f7d0afbd15861272317c6a879bd194548f3bdd9123924ea94b97c72608452a", func := "nursery/nurserylaw23.TopicValid", spec := "topicValid", inPlace := ["slices.overlaps[nursery/api.Cursor]"], unfollowed := true, recurses := true, apart := false }
def TopicValidSaid : Prop := topicValidRow.holds Try.pinned (OpenSpec.ofChange topicValidSpec)

/-- ITS FALSE NEIGHBOUR: 'it returns false'. Refute it at one input. -/
def topicValidWrong : ChangeSpec := { name := "topicValid", fn := fun _ => fun
  | [d1, d2, d3, d4] => { results := [.lit (.bool false)], args := [d1, d2, d3, d4] }
  | _ => none }
def TopicValidWrongFalsely : Prop := topicValidRow.holds Try.pinned (OpenSpec.ofChange topicValidWrong)

/-- 'nurserylaw23.TopicUndo': WHATEVER THE INPUT: true; the input reads as it did. -/
def topicUndoSpec : ChangeSpec := { name := "topicUndo", fn := fun _ => fun
  | [d1, d2, d3, d4] => { results := [.lit (.bool true)], args := [d1, d2, d3, d4] }
  | _ => none }
def topicUndoRow : OpenClaim := { program := "ytifnkfombicejaa", sum := "a0f7d0afbd15861272317c6a879bd194548f3bdd9123924ea94b97c72608452a", func := "nursery/nurserylaw23.TopicUndo", spec := "topicUndo", inPlace := ["slices.overlaps[nursery/api.Cursor]"], unfollowed := true, recurses := true, apart := false }
def TopicUndoSaid : Prop := topicUndoRow.holds Try.pinned (OpenSpec.ofChange topicUndoSpec)

/-- ITS FALSE NEIGHBOUR: 'it returns false'. Refute it at one input. -/
def topicUndoWrong : ChangeSpec := { name := "topicUndo", fn := fun _ => fun
  | [d1, d2, d3, d4] => { results := [.lit (.bool false)], args := [d1, d2, d3, d4] }
  | _ => none }
def TopicUndoWrongFalsely : Prop := topicUndoRow.holds Try.pinned (OpenSpec.ofChange topicUndoWrong)

/-- 'nurserylaw23.TopicWithdraw': WHATEVER THE INPUT: true; the input reads as it did. -/
def topicWithdrawSpec : ChangeSpec := { name := "topicWithdraw", fn := fun _ => fun
  | [d1, d2, d3, d4] => { results := [.lit (.bool true)], args := [d1, d2, d3, d4] }
  | _ => none }
def topicWithdrawRow : OpenClaim := { program := "ytifnkfombicejaa", sum := "a0f7d0afbd15861272317c6a879bd194548f3bdd9123924ea94b97c72608452a", func := "nursery/nurserylaw23.TopicWithdraw", spec := "topicWithdraw", inPlace := ["slices.overlaps[nursery/api.Cursor]"], unfollowed := true, recurses := true, apart := false }
def TopicWithdrawSaid : Prop := topicWithdrawRow.holds Try.pinned (OpenSpec.ofChange topicWithdrawSpec)

/-- ITS FALSE NEIGHBOUR: 'it returns false'. Refute it at one input. -/
def topicWithdrawWrong : ChangeSpec := { name := "topicWithdraw", fn := fun _ => fun
  | [d1, d2, d3, d4] => { results := [.lit (.bool false)], args := [d1, d2, d3, d4] }
  | _ => none }
def TopicWithdrawWrongFalsely : Prop := topicWithdrawRow.holds Try.pinned (OpenSpec.ofChange topicWithdrawWrong)

/-- 'nurserylaw23.TopicDelivers': WHATEVER THE INPUT: true; the input reads as it did. -/
def topicDeliversSpec : ChangeSpec := { name := "topicDelivers", fn := fun _ => fun
  | [d1, d2] => { results := [.lit (.bool true)], args := [d1, d2] }
  | _ => none }
def topicDeliversRow : OpenClaim := { program := "ytifnkfombicejaa", sum := "a0f7d0afbd15861272317c6a879bd194548f3bdd9123924ea94b97c72608452a", func := "nursery/nurserylaw23.TopicDelivers", spec := "topicDelivers", inPlace := ["slices.overlaps[nursery/api.Cursor]"], unfollowed := true, recurses := true, apart := false }
def TopicDeliversSaid : Prop := topicDeliversRow.holds Try.pinned (OpenSpec.ofChange topicDeliversSpec)

/-- ITS FALSE NEIGHBOUR: 'it returns false'. Refute it at one input. -/
def topicDeliversWrong : ChangeSpec := { name := "topicDelivers", fn := fun _ => fun
  | [d1, d2] => { results := [.lit (.bool false)], args := [d1, d2] }
  | _ => none }
def TopicDeliversWrongFalsely : Prop := topicDeliversRow.holds Try.pinned (OpenSpec.ofChange topicDeliversWrong)

/- THE SECOND FORM. 'bulk': how many values and letters a reading holds, each counted each time it is reached (what is shared counts as often as it is met; a slice's spare places count too). A statement '..UptoSaid' is the law's where the arguments, and the package variables that the reading takes, are together of bulk at most 1048576: NARROWER than '..Said'. Prove '..Said' where nothing that the law and all that it calls make is longer than what came in: it says more and counts as full. Else prove '..UptoSaid'. A law counts once. -/
mutual
def uptoBulk {H : Type} : DataW H → Nat
  | .lit (.string bytes) => bytes.length + 1
  | .lit _ => 1
  | .nil => 1
  | .ptr d => uptoBulk d + 1
  | .slice elems spare => uptoBulkAll elems + uptoBulkAll spare + 1
  | .agg parts => uptoBulkAll parts + 1
  | .iface _ d => uptoBulk d + 1
  | .map entries => uptoBulkEntries entries + 1
  | .held _ => 1
def uptoBulkAll {H : Type} : List (DataW H) → Nat
  | [] => 0
  | d :: r => uptoBulk d + uptoBulkAll r
def uptoBulkEntries {H : Type} : List (Lit × DataW H) → Nat
  | [] => 0
  | x :: r => uptoBulkEntry x + uptoBulkEntries r
def uptoBulkEntry {H : Type} : Lit × DataW H → Nat
  | (.string bytes, d) => bytes.length + uptoBulk d + 1
  | (_, d) => uptoBulk d + 1
 end
def uptoSmall : (H : Type) → List (DataW H) → Bool := fun _ ds => decide (uptoBulkAll ds ≤ 1048576)
def OpenSpec.upto (s : _root_.Go.ChangeSpec) : _root_.Go.OpenSpec := { _root_.Go.OpenSpec.ofChange s with cond := some uptoSmall }

/-- 'nurserylaw23.TopicApply', WHERE WHAT IT READS IS OF BULK AT MOST 1048576: true; the input reads as it did. -/
def topicApplyUptoRow : OpenClaim := { program := "ytifnkfombicejaa", sum := "a0f7d0afbd15861272317c6a879bd194548f3bdd9123924ea94b97c72608452a", func := "nursery/nurserylaw23.TopicApply", spec := "topicApply", inPlace := ["slices.overlaps[nursery/api.Cursor]"], unfollowed := true, recurses := true, apart := false, narrowed := true }
def TopicApplyUptoSaid : Prop := topicApplyUptoRow.holds Try.pinned (OpenSpec.upto topicApplySpec)

/-- 'nurserylaw23.TopicLeaves', WHERE WHAT IT READS IS OF BULK AT MOST 1048576: true; the input reads as it did. -/
def topicLeavesUptoRow : OpenClaim := { program := "ytifnkfombicejaa", sum := "a0f7d0afbd15861272317c6a879bd194548f3bdd9123924ea94b97c72608452a", func := "nursery/nurserylaw23.TopicLeaves", spec := "topicLeaves", inPlace := ["slices.overlaps[nursery/api.Cursor]"], unfollowed := true, recurses := true, apart := false, narrowed := true }
def TopicLeavesUptoSaid : Prop := topicLeavesUptoRow.holds Try.pinned (OpenSpec.upto topicLeavesSpec)

/-- 'nurserylaw23.TopicReads', WHERE WHAT IT READS IS OF BULK AT MOST 1048576: true; the input reads as it did. -/
def topicReadsUptoRow : OpenClaim := { program := "ytifnkfombicejaa", sum := "a0f7d0afbd15861272317c6a879bd194548f3bdd9123924ea94b97c72608452a", func := "nursery/nurserylaw23.TopicReads", spec := "topicReads", inPlace := ["slices.overlaps[nursery/api.Cursor]"], unfollowed := true, recurses := true, apart := false, narrowed := true }
def TopicReadsUptoSaid : Prop := topicReadsUptoRow.holds Try.pinned (OpenSpec.upto topicReadsSpec)

/-- 'nurserylaw23.TopicValid', WHERE WHAT IT READS IS OF BULK AT MOST 1048576: true; the input reads as it did. -/
def topicValidUptoRow : OpenClaim := { program := "ytifnkfombicejaa", sum := "a0f7d0afbd15861272317c6a879bd194548f3bdd9123924ea94b97c72608452a", func := "nursery/nurserylaw23.TopicValid", spec := "topicValid", inPlace := ["slices.overlaps[nursery/api.Cursor]"], unfollowed := true, recurses := true, apart := false, narrowed := true }
def TopicValidUptoSaid : Prop := topicValidUptoRow.holds Try.pinned (OpenSpec.upto topicValidSpec)

/-- 'nurserylaw23.TopicUndo', WHERE WHAT IT READS IS OF BULK AT MOST 1048576: true; the input reads as it did. -/
def topicUndoUptoRow : OpenClaim := { program := "ytifnkfombicejaa", sum := "a0f7d0afbd15861272317c6a879bd194548f3bdd9123924ea94b97c72608452a", func := "nursery/nurserylaw23.TopicUndo", spec := "topicUndo", inPlace := ["slices.overlaps[nursery/api.Cursor]"], unfollowed := true, recurses := true, apart := false, narrowed := true }
def TopicUndoUptoSaid : Prop := topicUndoUptoRow.holds Try.pinned (OpenSpec.upto topicUndoSpec)

/-- 'nurserylaw23.TopicWithdraw', WHERE WHAT IT READS IS OF BULK AT MOST 1048576: true; the input reads as it did. -/
def topicWithdrawUptoRow : OpenClaim := { program := "ytifnkfombicejaa", sum := "a0f7d0afbd15861272317c6a879bd194548f3bdd9123924ea94b97c72608452a", func := "nursery/nurserylaw23.TopicWithdraw", spec := "topicWithdraw", inPlace := ["slices.overlaps[nursery/api.Cursor]"], unfollowed := true, recurses := true, apart := false, narrowed := true }
def TopicWithdrawUptoSaid : Prop := topicWithdrawUptoRow.holds Try.pinned (OpenSpec.upto topicWithdrawSpec)

/-- 'nurserylaw23.TopicDelivers', WHERE WHAT IT READS IS OF BULK AT MOST 1048576: true; the input reads as it did. -/
def topicDeliversUptoRow : OpenClaim := { program := "ytifnkfombicejaa", sum := "a0f7d0afbd15861272317c6a879bd194548f3bdd9123924ea94b97c72608452a", func := "nursery/nurserylaw23.TopicDelivers", spec := "topicDelivers", inPlace := ["slices.overlaps[nursery/api.Cursor]"], unfollowed := true, recurses := true, apart := false, narrowed := true }
def TopicDeliversUptoSaid : Prop := topicDeliversUptoRow.holds Try.pinned (OpenSpec.upto topicDeliversSpec)

end Rows
end Go.Proofs.Ytifnkfombicejaa
