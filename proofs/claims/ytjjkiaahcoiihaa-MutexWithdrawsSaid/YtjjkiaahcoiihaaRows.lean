/-
  No cell of these rows narrows 'for every input' (looked for: loops, veiled, ifaces, maps, wideKeys, modest, calm, conditions, laid).
  DERIVED. THE GIVEN ROWS OF THIS SEAT. 8 by the template 'for every input the law returns true; each argument reads behind the call as it read before'; 0 by the template 'total and deterministic' (their statements: YtjjkiaahcoiihaaTotals.lean).
  GIVEN WITH THE SEED: the statements are not yours to turn. If you find one false, say at which input.
  Laid BY PROGRAM, IN A SANDBOX (cutbox-rows.mjs): the forced cells as the released guide's own fill.sh prints them over the translation 38113bcef424bf73… (all of the seat's roots in one cut). By AI agents, Wed Nov 11 2026. No macro, syntax, notation, axiom, sorry.
-/
import Derived.Test.YtjjkiaahcoiihaaChecked
import GoSem.Claim
import GoSem.ClaimJoined
import GoSem.ClaimMapViews
import Derived.JoinedTies
import Derived.KernelRfl
namespace Go.Proofs.Ytjjkiaahcoiihaa
/- THE CELL 'sum', in the pinned program and in every row, IS THE sha256 OF THE DUMP (.gsa) THAT YtjjkiaahcoiihaaProg.lean LOADS. Nothing in Lean hashes anything: it is a label: what it is worth is what the hold of that sum in a sandbox is worth. -/
noncomputable def Try.pinned : Pinned := { name := "ytjjkiaahcoiihaa", sum := "38113bcef424bf731a82a8e2dc3a4e5c2215b45050491863c82c18e641e75ca6", checked := Try.checked }
namespace Rows
def none {H : Type} : Left H := { results := [], args := [] }

/-- 'nurserylaw16.MutexExclusive': WHATEVER THE INPUT: true; the input reads as it did. -/
def mutexExclusiveSpec : ChangeSpec := { name := "mutexExclusive", fn := fun _ => fun
  | [d] => { results := [.lit (.bool true)], args := [d] }
  | _ => none }
def mutexExclusiveRow : OpenClaim := { program := "ytjjkiaahcoiihaa", sum := "38113bcef424bf731a82a8e2dc3a4e5c2215b45050491863c82c18e641e75ca6", func := "nursery/nurserylaw16.MutexExclusive", spec := "mutexExclusive", inPlace := ["slices.overlaps[nursery/api.Waiter]"], unfollowed := true, recurses := true, apart := false }
def MutexExclusiveSaid : Prop := mutexExclusiveRow.holds Try.pinned (OpenSpec.ofChange mutexExclusiveSpec)

/-- ITS FALSE NEIGHBOUR: 'it returns false'. Refute it at one input. -/
def mutexExclusiveWrong : ChangeSpec := { name := "mutexExclusive", fn := fun _ => fun
  | [d] => { results := [.lit (.bool false)], args := [d] }
  | _ => none }
def MutexExclusiveWrongFalsely : Prop := mutexExclusiveRow.holds Try.pinned (OpenSpec.ofChange mutexExclusiveWrong)

/-- 'nurserylaw16.MutexHandover': WHATEVER THE INPUT: true; the input reads as it did. -/
def mutexHandoverSpec : ChangeSpec := { name := "mutexHandover", fn := fun _ => fun
  | [d] => { results := [.lit (.bool true)], args := [d] }
  | _ => none }
def mutexHandoverRow : OpenClaim := { program := "ytjjkiaahcoiihaa", sum := "38113bcef424bf731a82a8e2dc3a4e5c2215b45050491863c82c18e641e75ca6", func := "nursery/nurserylaw16.MutexHandover", spec := "mutexHandover", inPlace := ["slices.overlaps[nursery/api.Waiter]"], unfollowed := true, recurses := true, apart := false }
def MutexHandoverSaid : Prop := mutexHandoverRow.holds Try.pinned (OpenSpec.ofChange mutexHandoverSpec)

/-- ITS FALSE NEIGHBOUR: 'it returns false'. Refute it at one input. -/
def mutexHandoverWrong : ChangeSpec := { name := "mutexHandover", fn := fun _ => fun
  | [d] => { results := [.lit (.bool false)], args := [d] }
  | _ => none }
def MutexHandoverWrongFalsely : Prop := mutexHandoverRow.holds Try.pinned (OpenSpec.ofChange mutexHandoverWrong)

/-- 'nurserylaw16.MutexApply': WHATEVER THE INPUT: true; the input reads as it did. -/
def mutexApplySpec : ChangeSpec := { name := "mutexApply", fn := fun _ => fun
  | [d1, d2, d3] => { results := [.lit (.bool true)], args := [d1, d2, d3] }
  | _ => none }
def mutexApplyRow : OpenClaim := { program := "ytjjkiaahcoiihaa", sum := "38113bcef424bf731a82a8e2dc3a4e5c2215b45050491863c82c18e641e75ca6", func := "nursery/nurserylaw16.MutexApply", spec := "mutexApply", inPlace := ["slices.overlaps[nursery/api.Waiter]"], unfollowed := true, recurses := true, apart := false }
def MutexApplySaid : Prop := mutexApplyRow.holds Try.pinned (OpenSpec.ofChange mutexApplySpec)

/-- ITS FALSE NEIGHBOUR: 'it returns false'. Refute it at one input. -/
def mutexApplyWrong : ChangeSpec := { name := "mutexApply", fn := fun _ => fun
  | [d1, d2, d3] => { results := [.lit (.bool false)], args := [d1, d2, d3] }
  | _ => none }
def MutexApplyWrongFalsely : Prop := mutexApplyRow.holds Try.pinned (OpenSpec.ofChange mutexApplyWrong)

/-- 'nurserylaw16.MutexStates': WHATEVER THE INPUT: true; the input reads as it did. -/
def mutexStatesSpec : ChangeSpec := { name := "mutexStates", fn := fun _ => fun
  | [d1, d2] => { results := [.lit (.bool true)], args := [d1, d2] }
  | _ => none }
def mutexStatesRow : OpenClaim := { program := "ytjjkiaahcoiihaa", sum := "38113bcef424bf731a82a8e2dc3a4e5c2215b45050491863c82c18e641e75ca6", func := "nursery/nurserylaw16.MutexStates", spec := "mutexStates", inPlace := ["slices.overlaps[nursery/api.Waiter]"], unfollowed := true, recurses := true, apart := false }
def MutexStatesSaid : Prop := mutexStatesRow.holds Try.pinned (OpenSpec.ofChange mutexStatesSpec)

/-- ITS FALSE NEIGHBOUR: 'it returns false'. Refute it at one input. -/
def mutexStatesWrong : ChangeSpec := { name := "mutexStates", fn := fun _ => fun
  | [d1, d2] => { results := [.lit (.bool false)], args := [d1, d2] }
  | _ => none }
def MutexStatesWrongFalsely : Prop := mutexStatesRow.holds Try.pinned (OpenSpec.ofChange mutexStatesWrong)

/-- 'nurserylaw16.MutexServes': WHATEVER THE INPUT: true; the input reads as it did. -/
def mutexServesSpec : ChangeSpec := { name := "mutexServes", fn := fun _ => fun
  | [d] => { results := [.lit (.bool true)], args := [d] }
  | _ => none }
def mutexServesRow : OpenClaim := { program := "ytjjkiaahcoiihaa", sum := "38113bcef424bf731a82a8e2dc3a4e5c2215b45050491863c82c18e641e75ca6", func := "nursery/nurserylaw16.MutexServes", spec := "mutexServes", inPlace := ["slices.overlaps[nursery/api.Waiter]"], unfollowed := true, recurses := true, apart := false }
def MutexServesSaid : Prop := mutexServesRow.holds Try.pinned (OpenSpec.ofChange mutexServesSpec)

/-- ITS FALSE NEIGHBOUR: 'it returns false'. Refute it at one input. -/
def mutexServesWrong : ChangeSpec := { name := "mutexServes", fn := fun _ => fun
  | [d] => { results := [.lit (.bool false)], args := [d] }
  | _ => none }
def MutexServesWrongFalsely : Prop := mutexServesRow.holds Try.pinned (OpenSpec.ofChange mutexServesWrong)

/-- 'nurserylaw16.MutexWithdraw': WHATEVER THE INPUT: true; the input reads as it did. -/
def mutexWithdrawSpec : ChangeSpec := { name := "mutexWithdraw", fn := fun _ => fun
  | [d1, d2, d3] => { results := [.lit (.bool true)], args := [d1, d2, d3] }
  | _ => none }
def mutexWithdrawRow : OpenClaim := { program := "ytjjkiaahcoiihaa", sum := "38113bcef424bf731a82a8e2dc3a4e5c2215b45050491863c82c18e641e75ca6", func := "nursery/nurserylaw16.MutexWithdraw", spec := "mutexWithdraw", inPlace := ["slices.overlaps[nursery/api.Waiter]"], unfollowed := true, recurses := true, apart := false }
def MutexWithdrawSaid : Prop := mutexWithdrawRow.holds Try.pinned (OpenSpec.ofChange mutexWithdrawSpec)

/-- ITS FALSE NEIGHBOUR: 'it returns false'. Refute it at one input. -/
def mutexWithdrawWrong : ChangeSpec := { name := "mutexWithdraw", fn := fun _ => fun
  | [d1, d2, d3] => { results := [.lit (.bool false)], args := [d1, d2, d3] }
  | _ => none }
def MutexWithdrawWrongFalsely : Prop := mutexWithdrawRow.holds Try.pinned (OpenSpec.ofChange mutexWithdrawWrong)

/-- 'nurserylaw16.MutexWithdraws': WHATEVER THE INPUT: true; the input reads as it did. -/
def mutexWithdrawsSpec : ChangeSpec := { name := "mutexWithdraws", fn := fun _ => fun
  | [d1, d2, d3] => { results := [.lit (.bool true)], args := [d1, d2, d3] }
  | _ => none }
def mutexWithdrawsRow : OpenClaim := { program := "ytjjkiaahcoiihaa", sum := "38113bcef424bf731a82a8e2dc3a4e5c2215b45050491863c82c18e641e75ca6", func := "nursery/nurserylaw16.MutexWithdraws", spec := "mutexWithdraws", inPlace := ["slices.overlaps[nursery/api.Waiter]"], unfollowed := true, recurses := true, apart := false }
def MutexWithdrawsSaid : Prop := mutexWithdrawsRow.holds Try.pinned (OpenSpec.ofChange mutexWithdrawsSpec)

/-- ITS FALSE NEIGHBOUR: 'it returns false'. Refute it at one input. -/
def mutexWithdrawsWrong : ChangeSpec := { name := "mutexWithdraws", fn := fun _ => fun
  | [d1, d2, d3] => { results := [.lit (.bool false)], args := [d1, d2, d3] }
  | _ => none }
def MutexWithdrawsWrongFalsely : Prop := mutexWithdrawsRow.holds Try.pinned (OpenSpec.ofChange mutexWithdrawsWrong)

/-- 'nurserylaw16.MutexValid': WHATEVER THE INPUT: true; the input reads as it did. -/
def mutexValidSpec : ChangeSpec := { name := "mutexValid", fn := fun _ => fun
  | [d1, d2, d3] => { results := [.lit (.bool true)], args := [d1, d2, d3] }
  | _ => none }
def mutexValidRow : OpenClaim := { program := "ytjjkiaahcoiihaa", sum := "38113bcef424bf731a82a8e2dc3a4e5c2215b45050491863c82c18e641e75ca6", func := "nursery/nurserylaw16.MutexValid", spec := "mutexValid", inPlace := ["slices.overlaps[nursery/api.Waiter]"], unfollowed := true, recurses := true, apart := false }
def MutexValidSaid : Prop := mutexValidRow.holds Try.pinned (OpenSpec.ofChange mutexValidSpec)

/-- ITS FALSE NEIGHBOUR: 'it returns false'. Refute it at one input. -/
def mutexValidWrong : ChangeSpec := { name := "mutexValid", fn := fun _ => fun
  | [d1, d2, d3] => { results := [.lit (.bool false)], args := [d1, d2, d3] }
  | _ => none }
def MutexValidWrongFalsely : Prop := mutexValidRow.holds Try.pinned (OpenSpec.ofChange mutexValidWrong)

/- THE SECOND FORM. 'bulk': how many values and letters a reading holds, each counted each time it is reached (what is shared counts as often as it is met; a slice's spare places count too). A statement '..UptoSaid' is the law's where the arguments, and the package variables that the reading takes, are together of bulk at most 1048576: NARROWER than '..Said'. Prove '..Said' where nothing that the law and all that it calls make is longer than what came in: it says more and counts as full. Else prove '..UptoSaid'. A law counts once. -/
mutual
def uptoBulk {H : Type} : DataW H → Nat
  | .lit (.string bytes) => bytes.length + 1
  | .lit _ => 1
  | .nil => 1
  | .ptr d => uptoBulk d + 1
  | .slice elems spare => uptoBulkAll elems + uptoBulkAll spare + 1
  | .agg parts => uptoBulkAll parts + 1
  | .iface _ d => uptoBulk d + 1
  | .map entries => uptoBulkEntries entries + 1
  | .held _ => 1
def uptoBulkAll {H : Type} : List (DataW H) → Nat
  | [] => 0
  | d :: r => uptoBulk d + uptoBulkAll r
def uptoBulkEntries {H : Type} : List (Lit × DataW H) → Nat
  | [] => 0
  | x :: r => uptoBulkEntry x + uptoBulkEntries r
def uptoBulkEntry {H : Type} : Lit × DataW H → Nat
  | (.string bytes, d) => bytes.length + uptoBulk d + 1
  | (_, d) => uptoBulk d + 1
 end
def uptoSmall : (H : Type) → List (DataW H) → Bool := fun _ ds => decide (uptoBulkAll ds ≤ 1048576)
def OpenSpec.upto (s : _root_.Go.ChangeSpec) : _root_.Go.OpenSpec := { _root_.Go.OpenSpec.ofChange s with cond := some uptoSmall }

/-- 'nurserylaw16.MutexExclusive', WHERE WHAT IT READS IS OF BULK AT MOST 1048576: true; the input reads as it did. -/
def mutexExclusiveUptoRow : OpenClaim := { program := "ytjjkiaahcoiihaa", sum := "38113bcef424bf731a82a8e2dc3a4e5c2215b45050491863c82c18e641e75ca6", func := "nursery/nurserylaw16.MutexExclusive", spec := "mutexExclusive", inPlace := ["slices.overlaps[nursery/api.Waiter]"], unfollowed := true, recurses := true, apart := false, narrowed := true }
def MutexExclusiveUptoSaid : Prop := mutexExclusiveUptoRow.holds Try.pinned (OpenSpec.upto mutexExclusiveSpec)

/-- 'nurserylaw16.MutexHandover', WHERE WHAT IT READS IS OF BULK AT MOST 1048576: true; the input reads as it did. -/
def mutexHandoverUptoRow : OpenClaim := { program := "ytjjkiaahcoiihaa", sum := "38113bcef424bf731a82a8e2dc3a4e5c2215b45050491863c82c18e641e75ca6", func := "nursery/nurserylaw16.MutexHandover", spec := "mutexHandover", inPlace := ["slices.overlaps[nursery/api.Waiter]"], unfollowed := true, recurses := true, apart := false, narrowed := true }
def MutexHandoverUptoSaid : Prop := mutexHandoverUptoRow.holds Try.pinned (OpenSpec.upto mutexHandoverSpec)

/-- 'nurserylaw16.MutexApply', WHERE WHAT IT READS IS OF BULK AT MOST 1048576: true; the input reads as it did. -/
def mutexApplyUptoRow : OpenClaim := { program := "ytjjkiaahcoiihaa", sum := "38113bcef424bf731a82a8e2dc3a4e5c2215b45050491863c82c18e641e75ca6", func := "nursery/nurserylaw16.MutexApply", spec := "mutexApply", inPlace := ["slices.overlaps[nursery/api.Waiter]"], unfollowed := true, recurses := true, apart := false, narrowed := true }
def MutexApplyUptoSaid : Prop := mutexApplyUptoRow.holds Try.pinned (OpenSpec.upto mutexApplySpec)

/-- 'nurserylaw16.MutexStates', WHERE WHAT IT READS IS OF BULK AT MOST 1048576: true; the input reads as it did. -/
def mutexStatesUptoRow : OpenClaim := { program := "ytjjkiaahcoiihaa", sum := "38113bcef424bf731a82a8e2dc3a4e5c2215b45050491863c82c18e641e75ca6", func := "nursery/nurserylaw16.MutexStates", spec := "mutexStates", inPlace := ["slices.overlaps[nursery/api.Waiter]"], unfollowed := true, recurses := true, apart := false, narrowed := true }
def MutexStatesUptoSaid : Prop := mutexStatesUptoRow.holds Try.pinned (OpenSpec.upto mutexStatesSpec)

/-- 'nurserylaw16.MutexServes', WHERE WHAT IT READS IS OF BULK AT MOST 1048576: true; the input reads as it did. -/
def mutexServesUptoRow : OpenClaim := { program := "ytjjkiaahcoiihaa", sum := "38113bcef424bf731a82a8e2dc3a4e5c2215b45050491863c82c18e641e75ca6", func := "nursery/nurserylaw16.MutexServes", spec := "mutexServes", inPlace := ["slices.overlaps[nursery/api.Waiter]"], unfollowed := true, recurses := true, apart := false, narrowed := true }
def MutexServesUptoSaid : Prop := mutexServesUptoRow.holds Try.pinned (OpenSpec.upto mutexServesSpec)

/-- 'nurserylaw16.MutexWithdraw', WHERE WHAT IT READS IS OF BULK AT MOST 1048576: true; the input reads as it did. -/
def mutexWithdrawUptoRow : OpenClaim := { program := "ytjjkiaahcoiihaa", sum := "38113bcef424bf731a82a8e2dc3a4e5c2215b45050491863c82c18e641e75ca6", func := "nursery/nurserylaw16.MutexWithdraw", spec := "mutexWithdraw", inPlace := ["slices.overlaps[nursery/api.Waiter]"], unfollowed := true, recurses := true, apart := false, narrowed := true }
def MutexWithdrawUptoSaid : Prop := mutexWithdrawUptoRow.holds Try.pinned (OpenSpec.upto mutexWithdrawSpec)

/-- 'nurserylaw16.MutexWithdraws', WHERE WHAT IT READS IS OF BULK AT MOST 1048576: true; the input reads as it did. -/
def mutexWithdrawsUptoRow : OpenClaim := { program := "ytjjkiaahcoiihaa", sum := "38113bcef424bf731a82a8e2dc3a4e5c2215b45050491863c82c18e641e75ca6", func := "nursery/nurserylaw16.MutexWithdraws", spec := "mutexWithdraws", inPlace := ["slices.overlaps[nursery/api.Waiter]"], unfollowed := true, recurses := true, apart := false, narrowed := true }
def MutexWithdrawsUptoSaid : Prop := mutexWithdrawsUptoRow.holds Try.pinned (OpenSpec.upto mutexWithdrawsSpec)

/-- 'nurserylaw16.MutexValid', WHERE WHAT IT READS IS OF BULK AT MOST 1048576: true; the input reads as it did. -/
def mutexValidUptoRow : OpenClaim := { program := "ytjjkiaahcoiihaa", sum := "38113bcef424bf731a82a8e2dc3a4e5c2215b45050491863c82c18e641e75ca6", func := "nursery/nurserylaw16.MutexValid", spec := "mutexValid", inPlace := ["slices.overlaps[nursery/api.Waiter]"], unfollowed := true, recurses := true, apart := false, narrowed := true }
def MutexValidUptoSaid : Prop := mutexValidUptoRow.holds Try.pinned (OpenSpec.upto mutexValidSpec)

end Rows
end Go.Proofs.Ytjjkiaahcoiihaa
