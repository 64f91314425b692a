/-
  No cell of these rows narrows 'for every input' (looked for: loops, veiled, ifaces, maps, wideKeys, modest, calm, conditions, laid).
  DERIVED. THE GIVEN ROWS OF THIS SEAT. 10 by the template 'for every input the law returns true; each argument reads behind the call as it read before'; 0 by the template 'total and deterministic' (their statements: YtjpdopldkeodgaaGreatTotals.lean).
  GIVEN WITH THE SEED: the statements are not yours to turn. If you find one false, say at which input.
  Laid BY PROGRAM, IN A SANDBOX (cutbox-rows.mjs): the forced cells as the released guide's own fill.sh prints them over the translation 9094037c40a4fb07… (all of the seat's roots in one cut). By AI agents, Wed Nov 11 2026. No macro, syntax, notation, axiom, sorry.
-/
import Derived.Test.YtjpdopldkeodgaaGreatChecked
import GoSem.Claim
import GoSem.ClaimJoined
import GoSem.ClaimMapViews
import Derived.JoinedTies
import Derived.KernelRfl
namespace Go.Proofs.YtjpdopldkeodgaaGreat
/- THE CELL 'sum', in the pinned program and in every row, IS THE sha256 OF THE DUMP (.gsa) THAT YtjpdopldkeodgaaGreatProg.lean LOADS. Nothing in Lean hashes anything: it is a label: what it is worth is what the hold of that sum in a sandbox is worth. -/
noncomputable def Tryz.pinned : Pinned := { name := "ytjpdopldkeodgaagreat", sum := "9094037c40a4fb071e16444e46bd6bf408dca9ae24a64822aa40daf38aa341d3", checked := Tryz.checked }
namespace Rows
def none {H : Type} : Left H := { results := [], args := [] }

/-- 'nurserylaw26.SpecEffect': WHATEVER THE INPUT: true; the input reads as it did. -/
def specEffectSpec : ChangeSpec := { name := "specEffect", fn := fun _ => fun
  | [d1, d2, d3] => { results := [.lit (.bool true)], args := [d1, d2, d3] }
  | _ => none }
def specEffectRow : OpenClaim := { program := "ytjpdopldkeodgaagreat", sum := "9094037c40a4fb071e16444e46bd6bf408dca9ae24a64822aa40daf38aa341d3", func := "nursery/nurserylaw26.SpecEffect", spec := "specEffect", inPlace := ["slices.overlaps[int]"], unfollowed := true, recurses := true, apart := false }
def SpecEffectSaid : Prop := specEffectRow.holds Tryz.pinned (OpenSpec.ofChange specEffectSpec)

/-- ITS FALSE NEIGHBOUR: 'it returns false'. Refute it at one input. -/
def specEffectWrong : ChangeSpec := { name := "specEffect", fn := fun _ => fun
  | [d1, d2, d3] => { results := [.lit (.bool false)], args := [d1, d2, d3] }
  | _ => none }
def SpecEffectWrongFalsely : Prop := specEffectRow.holds Tryz.pinned (OpenSpec.ofChange specEffectWrong)

/-- 'nurserylaw26.SpecAccepts': WHATEVER THE INPUT: true; the input reads as it did. -/
def specAcceptsSpec : ChangeSpec := { name := "specAccepts", fn := fun _ => fun
  | [d1, d2, d3] => { results := [.lit (.bool true)], args := [d1, d2, d3] }
  | _ => none }
def specAcceptsRow : OpenClaim := { program := "ytjpdopldkeodgaagreat", sum := "9094037c40a4fb071e16444e46bd6bf408dca9ae24a64822aa40daf38aa341d3", func := "nursery/nurserylaw26.SpecAccepts", spec := "specAccepts", inPlace := ["slices.overlaps[int]"], unfollowed := true, recurses := true, apart := false }
def SpecAcceptsSaid : Prop := specAcceptsRow.holds Tryz.pinned (OpenSpec.ofChange specAcceptsSpec)

/-- ITS FALSE NEIGHBOUR: 'it returns false'. Refute it at one input. -/
def specAcceptsWrong : ChangeSpec := { name := "specAccepts", fn := fun _ => fun
  | [d1, d2, d3] => { results := [.lit (.bool false)], args := [d1, d2, d3] }
  | _ => none }
def SpecAcceptsWrongFalsely : Prop := specAcceptsRow.holds Tryz.pinned (OpenSpec.ofChange specAcceptsWrong)

/-- 'nurserylaw26.SpecMany': WHATEVER THE INPUT: true; the input reads as it did. -/
def specManySpec : ChangeSpec := { name := "specMany", fn := fun _ => fun
  | [d1, d2] => { results := [.lit (.bool true)], args := [d1, d2] }
  | _ => none }
def specManyRow : OpenClaim := { program := "ytjpdopldkeodgaagreat", sum := "9094037c40a4fb071e16444e46bd6bf408dca9ae24a64822aa40daf38aa341d3", func := "nursery/nurserylaw26.SpecMany", spec := "specMany", inPlace := ["slices.overlaps[int]"], unfollowed := true, recurses := true, apart := false }
def SpecManySaid : Prop := specManyRow.holds Tryz.pinned (OpenSpec.ofChange specManySpec)

/-- ITS FALSE NEIGHBOUR: 'it returns false'. Refute it at one input. -/
def specManyWrong : ChangeSpec := { name := "specMany", fn := fun _ => fun
  | [d1, d2] => { results := [.lit (.bool false)], args := [d1, d2] }
  | _ => none }
def SpecManyWrongFalsely : Prop := specManyRow.holds Tryz.pinned (OpenSpec.ofChange specManyWrong)

/-- 'nurserylaw26.SpecAbstract': WHATEVER THE INPUT: true; the input reads as it did. -/
def specAbstractSpec : ChangeSpec := { name := "specAbstract", fn := fun _ => fun
  | [d1, d2, d3] => { results := [.lit (.bool true)], args := [d1, d2, d3] }
  | _ => none }
def specAbstractRow : OpenClaim := { program := "ytjpdopldkeodgaagreat", sum := "9094037c40a4fb071e16444e46bd6bf408dca9ae24a64822aa40daf38aa341d3", func := "nursery/nurserylaw26.SpecAbstract", spec := "specAbstract", inPlace := ["slices.overlaps[int]"], unfollowed := true, recurses := true, apart := false }
def SpecAbstractSaid : Prop := specAbstractRow.holds Tryz.pinned (OpenSpec.ofChange specAbstractSpec)

/-- ITS FALSE NEIGHBOUR: 'it returns false'. Refute it at one input. -/
def specAbstractWrong : ChangeSpec := { name := "specAbstract", fn := fun _ => fun
  | [d1, d2, d3] => { results := [.lit (.bool false)], args := [d1, d2, d3] }
  | _ => none }
def SpecAbstractWrongFalsely : Prop := specAbstractRow.holds Tryz.pinned (OpenSpec.ofChange specAbstractWrong)

/-- 'nurserylaw26.SpecStates': WHATEVER THE INPUT: true; the input reads as it did. -/
def specStatesSpec : ChangeSpec := { name := "specStates", fn := fun _ => fun
  | [d1, d2] => { results := [.lit (.bool true)], args := [d1, d2] }
  | _ => none }
def specStatesRow : OpenClaim := { program := "ytjpdopldkeodgaagreat", sum := "9094037c40a4fb071e16444e46bd6bf408dca9ae24a64822aa40daf38aa341d3", func := "nursery/nurserylaw26.SpecStates", spec := "specStates", inPlace := ["slices.overlaps[int]"], unfollowed := true, recurses := true, apart := false }
def SpecStatesSaid : Prop := specStatesRow.holds Tryz.pinned (OpenSpec.ofChange specStatesSpec)

/-- ITS FALSE NEIGHBOUR: 'it returns false'. Refute it at one input. -/
def specStatesWrong : ChangeSpec := { name := "specStates", fn := fun _ => fun
  | [d1, d2] => { results := [.lit (.bool false)], args := [d1, d2] }
  | _ => none }
def SpecStatesWrongFalsely : Prop := specStatesRow.holds Tryz.pinned (OpenSpec.ofChange specStatesWrong)

/-- 'nurserylaw26.SpecWithdraws': WHATEVER THE INPUT: true; the input reads as it did. -/
def specWithdrawsSpec : ChangeSpec := { name := "specWithdraws", fn := fun _ => fun
  | [d1, d2, d3] => { results := [.lit (.bool true)], args := [d1, d2, d3] }
  | _ => none }
def specWithdrawsRow : OpenClaim := { program := "ytjpdopldkeodgaagreat", sum := "9094037c40a4fb071e16444e46bd6bf408dca9ae24a64822aa40daf38aa341d3", func := "nursery/nurserylaw26.SpecWithdraws", spec := "specWithdraws", inPlace := ["slices.overlaps[nursery/api.Waiter]", "slices.overlaps[int]", "slices.overlaps[nursery/api.Cursor]"], unfollowed := true, recurses := true, apart := false }
def SpecWithdrawsSaid : Prop := specWithdrawsRow.holds Tryz.pinned (OpenSpec.ofChange specWithdrawsSpec)

/-- ITS FALSE NEIGHBOUR: 'it returns false'. Refute it at one input. -/
def specWithdrawsWrong : ChangeSpec := { name := "specWithdraws", fn := fun _ => fun
  | [d1, d2, d3] => { results := [.lit (.bool false)], args := [d1, d2, d3] }
  | _ => none }
def SpecWithdrawsWrongFalsely : Prop := specWithdrawsRow.holds Tryz.pinned (OpenSpec.ofChange specWithdrawsWrong)

/-- 'nurserylaw26.SpecReady': WHATEVER THE INPUT: true; the input reads as it did. -/
def specReadySpec : ChangeSpec := { name := "specReady", fn := fun _ => fun
  | [d1, d2, d3] => { results := [.lit (.bool true)], args := [d1, d2, d3] }
  | _ => none }
def specReadyRow : OpenClaim := { program := "ytjpdopldkeodgaagreat", sum := "9094037c40a4fb071e16444e46bd6bf408dca9ae24a64822aa40daf38aa341d3", func := "nursery/nurserylaw26.SpecReady", spec := "specReady", inPlace := ["slices.overlaps[nursery/api.Waiter]", "slices.overlaps[int]", "slices.overlaps[nursery/api.Cursor]"], unfollowed := true, recurses := true, apart := false }
def SpecReadySaid : Prop := specReadyRow.holds Tryz.pinned (OpenSpec.ofChange specReadySpec)

/-- ITS FALSE NEIGHBOUR: 'it returns false'. Refute it at one input. -/
def specReadyWrong : ChangeSpec := { name := "specReady", fn := fun _ => fun
  | [d1, d2, d3] => { results := [.lit (.bool false)], args := [d1, d2, d3] }
  | _ => none }
def SpecReadyWrongFalsely : Prop := specReadyRow.holds Tryz.pinned (OpenSpec.ofChange specReadyWrong)

/-- 'nurserylaw26.SpecRuns': WHATEVER THE INPUT: true; the input reads as it did. -/
def specRunsSpec : ChangeSpec := { name := "specRuns", fn := fun _ => fun
  | [d1, d2] => { results := [.lit (.bool true)], args := [d1, d2] }
  | _ => none }
def specRunsRow : OpenClaim := { program := "ytjpdopldkeodgaagreat", sum := "9094037c40a4fb071e16444e46bd6bf408dca9ae24a64822aa40daf38aa341d3", func := "nursery/nurserylaw26.SpecRuns", spec := "specRuns", inPlace := ["slices.overlaps[nursery/api.Waiter]", "slices.overlaps[int]", "slices.overlaps[nursery/api.Cursor]"], unfollowed := true, recurses := true, apart := false }
def SpecRunsSaid : Prop := specRunsRow.holds Tryz.pinned (OpenSpec.ofChange specRunsSpec)

/-- ITS FALSE NEIGHBOUR: 'it returns false'. Refute it at one input. -/
def specRunsWrong : ChangeSpec := { name := "specRuns", fn := fun _ => fun
  | [d1, d2] => { results := [.lit (.bool false)], args := [d1, d2] }
  | _ => none }
def SpecRunsWrongFalsely : Prop := specRunsRow.holds Tryz.pinned (OpenSpec.ofChange specRunsWrong)

/-- 'nurserylaw26.SpecRefines': WHATEVER THE INPUT: true; the input reads as it did. -/
def specRefinesSpec : ChangeSpec := { name := "specRefines", fn := fun _ => fun
  | [d1, d2, d3] => { results := [.lit (.bool true)], args := [d1, d2, d3] }
  | _ => none }
def specRefinesRow : OpenClaim := { program := "ytjpdopldkeodgaagreat", sum := "9094037c40a4fb071e16444e46bd6bf408dca9ae24a64822aa40daf38aa341d3", func := "nursery/nurserylaw26.SpecRefines", spec := "specRefines", inPlace := ["slices.overlaps[nursery/api.Waiter]", "slices.overlaps[int]", "slices.overlaps[nursery/api.Cursor]"], unfollowed := true, recurses := true, apart := false }
def SpecRefinesSaid : Prop := specRefinesRow.holds Tryz.pinned (OpenSpec.ofChange specRefinesSpec)

/-- ITS FALSE NEIGHBOUR: 'it returns false'. Refute it at one input. -/
def specRefinesWrong : ChangeSpec := { name := "specRefines", fn := fun _ => fun
  | [d1, d2, d3] => { results := [.lit (.bool false)], args := [d1, d2, d3] }
  | _ => none }
def SpecRefinesWrongFalsely : Prop := specRefinesRow.holds Tryz.pinned (OpenSpec.ofChange specRefinesWrong)

/-- 'nurserylaw26.SpecIdle': WHATEVER THE INPUT: true; the input reads as it did. -/
def specIdleSpec : ChangeSpec := { name := "specIdle", fn := fun _ => fun
  | [d1, d2, d3, d4] => { results := [.lit (.bool true)], args := [d1, d2, d3, d4] }
  | _ => none }
def specIdleRow : OpenClaim := { program := "ytjpdopldkeodgaagreat", sum := "9094037c40a4fb071e16444e46bd6bf408dca9ae24a64822aa40daf38aa341d3", func := "nursery/nurserylaw26.SpecIdle", spec := "specIdle", inPlace := ["slices.overlaps[nursery/api.Waiter]", "slices.overlaps[int]", "slices.overlaps[nursery/api.Cursor]"], unfollowed := true, recurses := true, apart := false }
def SpecIdleSaid : Prop := specIdleRow.holds Tryz.pinned (OpenSpec.ofChange specIdleSpec)

/-- ITS FALSE NEIGHBOUR: 'it returns false'. Refute it at one input. -/
def specIdleWrong : ChangeSpec := { name := "specIdle", fn := fun _ => fun
  | [d1, d2, d3, d4] => { results := [.lit (.bool false)], args := [d1, d2, d3, d4] }
  | _ => none }
def SpecIdleWrongFalsely : Prop := specIdleRow.holds Tryz.pinned (OpenSpec.ofChange specIdleWrong)

/- THE SECOND FORM. 'bulk': how many values and letters a reading holds, each counted each time it is reached (what is shared counts as often as it is met; a slice's spare places count too). A statement '..UptoSaid' is the law's where the arguments, and the package variables that the reading takes, are together of bulk at most 1048576: NARROWER than '..Said'. Prove '..Said' where nothing that the law and all that it calls make is longer than what came in: it says more and counts as full. Else prove '..UptoSaid'. A law counts once. -/
mutual
def uptoBulk {H : Type} : DataW H → Nat
  | .lit (.string bytes) => bytes.length + 1
  | .lit _ => 1
  | .nil => 1
  | .ptr d => uptoBulk d + 1
  | .slice elems spare => uptoBulkAll elems + uptoBulkAll spare + 1
  | .agg parts => uptoBulkAll parts + 1
  | .iface _ d => uptoBulk d + 1
  | .map entries => uptoBulkEntries entries + 1
  | .held _ => 1
def uptoBulkAll {H : Type} : List (DataW H) → Nat
  | [] => 0
  | d :: r => uptoBulk d + uptoBulkAll r
def uptoBulkEntries {H : Type} : List (Lit × DataW H) → Nat
  | [] => 0
  | x :: r => uptoBulkEntry x + uptoBulkEntries r
def uptoBulkEntry {H : Type} : Lit × DataW H → Nat
  | (.string bytes, d) => bytes.length + uptoBulk d + 1
  | (_, d) => uptoBulk d + 1
 end
def uptoSmall : (H : Type) → List (DataW H) → Bool := fun _ ds => decide (uptoBulkAll ds ≤ 1048576)
def OpenSpec.upto (s : _root_.Go.ChangeSpec) : _root_.Go.OpenSpec := { _root_.Go.OpenSpec.ofChange s with cond := some uptoSmall }

/-- 'nurserylaw26.SpecEffect', WHERE WHAT IT READS IS OF BULK AT MOST 1048576: true; the input reads as it did. -/
def specEffectUptoRow : OpenClaim := { program := "ytjpdopldkeodgaagreat", sum := "9094037c40a4fb071e16444e46bd6bf408dca9ae24a64822aa40daf38aa341d3", func := "nursery/nurserylaw26.SpecEffect", spec := "specEffect", inPlace := ["slices.overlaps[int]"], unfollowed := true, recurses := true, apart := false, narrowed := true }
def SpecEffectUptoSaid : Prop := specEffectUptoRow.holds Tryz.pinned (OpenSpec.upto specEffectSpec)

/-- 'nurserylaw26.SpecAccepts', WHERE WHAT IT READS IS OF BULK AT MOST 1048576: true; the input reads as it did. -/
def specAcceptsUptoRow : OpenClaim := { program := "ytjpdopldkeodgaagreat", sum := "9094037c40a4fb071e16444e46bd6bf408dca9ae24a64822aa40daf38aa341d3", func := "nursery/nurserylaw26.SpecAccepts", spec := "specAccepts", inPlace := ["slices.overlaps[int]"], unfollowed := true, recurses := true, apart := false, narrowed := true }
def SpecAcceptsUptoSaid : Prop := specAcceptsUptoRow.holds Tryz.pinned (OpenSpec.upto specAcceptsSpec)

/-- 'nurserylaw26.SpecMany', WHERE WHAT IT READS IS OF BULK AT MOST 1048576: true; the input reads as it did. -/
def specManyUptoRow : OpenClaim := { program := "ytjpdopldkeodgaagreat", sum := "9094037c40a4fb071e16444e46bd6bf408dca9ae24a64822aa40daf38aa341d3", func := "nursery/nurserylaw26.SpecMany", spec := "specMany", inPlace := ["slices.overlaps[int]"], unfollowed := true, recurses := true, apart := false, narrowed := true }
def SpecManyUptoSaid : Prop := specManyUptoRow.holds Tryz.pinned (OpenSpec.upto specManySpec)

/-- 'nurserylaw26.SpecAbstract', WHERE WHAT IT READS IS OF BULK AT MOST 1048576: true; the input reads as it did. -/
def specAbstractUptoRow : OpenClaim := { program := "ytjpdopldkeodgaagreat", sum := "9094037c40a4fb071e16444e46bd6bf408dca9ae24a64822aa40daf38aa341d3", func := "nursery/nurserylaw26.SpecAbstract", spec := "specAbstract", inPlace := ["slices.overlaps[int]"], unfollowed := true, recurses := true, apart := false, narrowed := true }
def SpecAbstractUptoSaid : Prop := specAbstractUptoRow.holds Tryz.pinned (OpenSpec.upto specAbstractSpec)

/-- 'nurserylaw26.SpecStates', WHERE WHAT IT READS IS OF BULK AT MOST 1048576: true; the input reads as it did. -/
def specStatesUptoRow : OpenClaim := { program := "ytjpdopldkeodgaagreat", sum := "9094037c40a4fb071e16444e46bd6bf408dca9ae24a64822aa40daf38aa341d3", func := "nursery/nurserylaw26.SpecStates", spec := "specStates", inPlace := ["slices.overlaps[int]"], unfollowed := true, recurses := true, apart := false, narrowed := true }
def SpecStatesUptoSaid : Prop := specStatesUptoRow.holds Tryz.pinned (OpenSpec.upto specStatesSpec)

/-- 'nurserylaw26.SpecWithdraws', WHERE WHAT IT READS IS OF BULK AT MOST 1048576: true; the input reads as it did. -/
def specWithdrawsUptoRow : OpenClaim := { program := "ytjpdopldkeodgaagreat", sum := "9094037c40a4fb071e16444e46bd6bf408dca9ae24a64822aa40daf38aa341d3", func := "nursery/nurserylaw26.SpecWithdraws", spec := "specWithdraws", inPlace := ["slices.overlaps[nursery/api.Waiter]", "slices.overlaps[int]", "slices.overlaps[nursery/api.Cursor]"], unfollowed := true, recurses := true, apart := false, narrowed := true }
def SpecWithdrawsUptoSaid : Prop := specWithdrawsUptoRow.holds Tryz.pinned (OpenSpec.upto specWithdrawsSpec)

/-- 'nurserylaw26.SpecReady', WHERE WHAT IT READS IS OF BULK AT MOST 1048576: true; the input reads as it did. -/
def specReadyUptoRow : OpenClaim := { program := "ytjpdopldkeodgaagreat", sum := "9094037c40a4fb071e16444e46bd6bf408dca9ae24a64822aa40daf38aa341d3", func := "nursery/nurserylaw26.SpecReady", spec := "specReady", inPlace := ["slices.overlaps[nursery/api.Waiter]", "slices.overlaps[int]", "slices.overlaps[nursery/api.Cursor]"], unfollowed := true, recurses := true, apart := false, narrowed := true }
def SpecReadyUptoSaid : Prop := specReadyUptoRow.holds Tryz.pinned (OpenSpec.upto specReadySpec)

/-- 'nurserylaw26.SpecRuns', WHERE WHAT IT READS IS OF BULK AT MOST 1048576: true; the input reads as it did. -/
def specRunsUptoRow : OpenClaim := { program := "ytjpdopldkeodgaagreat", sum := "9094037c40a4fb071e16444e46bd6bf408dca9ae24a64822aa40daf38aa341d3", func := "nursery/nurserylaw26.SpecRuns", spec := "specRuns", inPlace := ["slices.overlaps[nursery/api.Waiter]", "slices.overlaps[int]", "slices.overlaps[nursery/api.Cursor]"], unfollowed := true, recurses := true, apart := false, narrowed := true }
def SpecRunsUptoSaid : Prop := specRunsUptoRow.holds Tryz.pinned (OpenSpec.upto specRunsSpec)

/-- 'nurserylaw26.SpecRefines', WHERE WHAT IT READS IS OF BULK AT MOST 1048576: true; the input reads as it did. -/
def specRefinesUptoRow : OpenClaim := { program := "ytjpdopldkeodgaagreat", sum := "9094037c40a4fb071e16444e46bd6bf408dca9ae24a64822aa40daf38aa341d3", func := "nursery/nurserylaw26.SpecRefines", spec := "specRefines", inPlace := ["slices.overlaps[nursery/api.Waiter]", "slices.overlaps[int]", "slices.overlaps[nursery/api.Cursor]"], unfollowed := true, recurses := true, apart := false, narrowed := true }
def SpecRefinesUptoSaid : Prop := specRefinesUptoRow.holds Tryz.pinned (OpenSpec.upto specRefinesSpec)

/-- 'nurserylaw26.SpecIdle', WHERE WHAT IT READS IS OF BULK AT MOST 1048576: true; the input reads as it did. -/
def specIdleUptoRow : OpenClaim := { program := "ytjpdopldkeodgaagreat", sum := "9094037c40a4fb071e16444e46bd6bf408dca9ae24a64822aa40daf38aa341d3", func := "nursery/nurserylaw26.SpecIdle", spec := "specIdle", inPlace := ["slices.overlaps[nursery/api.Waiter]", "slices.overlaps[int]", "slices.overlaps[nursery/api.Cursor]"], unfollowed := true, recurses := true, apart := false, narrowed := true }
def SpecIdleUptoSaid : Prop := specIdleUptoRow.holds Tryz.pinned (OpenSpec.upto specIdleSpec)

end Rows
end Go.Proofs.YtjpdopldkeodgaaGreat
