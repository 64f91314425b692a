/-
  No cell of these rows narrows 'for every input' (looked for: loops, veiled, ifaces, maps, wideKeys, modest, calm, conditions, laid).
  DERIVED. THE GIVEN ROWS OF THIS SEAT. 8 by the template 'for every input the law returns true; each argument reads behind the call as it read before'; 0 by the template 'total and deterministic' (their statements: YtiiegkaonlkgjaaTotals.lean).
  GIVEN WITH THE SEED: the statements are not yours to turn. If you find one false, say at which input.
  Laid BY PROGRAM, IN A SANDBOX (cutbox-rows.mjs): the forced cells as the released guide's own fill.sh prints them over the translation c6ceb8ff59966a95… (all of the seat's roots in one cut). By AI agents, Wed Nov 11 2026. No macro, syntax, notation, axiom, sorry.
-/
import Derived.Test.YtiiegkaonlkgjaaChecked
import GoSem.Claim
import GoSem.ClaimJoined
import GoSem.ClaimMapViews
import Derived.JoinedTies
import Derived.KernelRfl
namespace Go.Proofs.Ytiiegkaonlkgjaa
/- THE CELL 'sum', in the pinned program and in every row, IS THE sha256 OF THE DUMP (.gsa) THAT YtiiegkaonlkgjaaProg.lean LOADS. Nothing in Lean hashes anything: it is a label: what it is worth is what the hold of that sum in a sandbox is worth. -/
noncomputable def Try.pinned : Pinned := { name := "ytiiegkaonlkgjaa", sum := "c6ceb8ff59966a953532fd144575f8bc076141455c87b0de322761f01a910b53", checked := Try.checked }
namespace Rows
def none {H : Type} : Left H := { results := [], args := [] }

/-- 'nurserylaw06.TimersAdd': WHATEVER THE INPUT: true; the input reads as it did. -/
def timersAddSpec : ChangeSpec := { name := "timersAdd", fn := fun _ => fun
  | [d1, d2] => { results := [.lit (.bool true)], args := [d1, d2] }
  | _ => none }
def timersAddRow : OpenClaim := { program := "ytiiegkaonlkgjaa", sum := "c6ceb8ff59966a953532fd144575f8bc076141455c87b0de322761f01a910b53", func := "nursery/nurserylaw06.TimersAdd", spec := "timersAdd", inPlace := ["slices.overlaps[nursery/api.Timer]"], unfollowed := true, recurses := true, plainKeys := false, apart := false }
def TimersAddSaid : Prop := timersAddRow.holds Try.pinned (OpenSpec.ofChange timersAddSpec)

/-- ITS FALSE NEIGHBOUR: 'it returns false'. Refute it at one input. -/
def timersAddWrong : ChangeSpec := { name := "timersAdd", fn := fun _ => fun
  | [d1, d2] => { results := [.lit (.bool false)], args := [d1, d2] }
  | _ => none }
def TimersAddWrongFalsely : Prop := timersAddRow.holds Try.pinned (OpenSpec.ofChange timersAddWrong)

/-- 'nurserylaw06.TimersRemoved': WHATEVER THE INPUT: true; the input reads as it did. -/
def timersRemovedSpec : ChangeSpec := { name := "timersRemoved", fn := fun _ => fun
  | [d1, d2] => { results := [.lit (.bool true)], args := [d1, d2] }
  | _ => none }
def timersRemovedRow : OpenClaim := { program := "ytiiegkaonlkgjaa", sum := "c6ceb8ff59966a953532fd144575f8bc076141455c87b0de322761f01a910b53", func := "nursery/nurserylaw06.TimersRemoved", spec := "timersRemoved", inPlace := ["slices.overlaps[nursery/api.Timer]"], unfollowed := true, recurses := true, plainKeys := false, apart := false }
def TimersRemovedSaid : Prop := timersRemovedRow.holds Try.pinned (OpenSpec.ofChange timersRemovedSpec)

/-- ITS FALSE NEIGHBOUR: 'it returns false'. Refute it at one input. -/
def timersRemovedWrong : ChangeSpec := { name := "timersRemoved", fn := fun _ => fun
  | [d1, d2] => { results := [.lit (.bool false)], args := [d1, d2] }
  | _ => none }
def TimersRemovedWrongFalsely : Prop := timersRemovedRow.holds Try.pinned (OpenSpec.ofChange timersRemovedWrong)

/-- 'nurserylaw06.TimersLast': WHATEVER THE INPUT: true; the input reads as it did. -/
def timersLastSpec : ChangeSpec := { name := "timersLast", fn := fun _ => fun
  | [d] => { results := [.lit (.bool true)], args := [d] }
  | _ => none }
def timersLastRow : OpenClaim := { program := "ytiiegkaonlkgjaa", sum := "c6ceb8ff59966a953532fd144575f8bc076141455c87b0de322761f01a910b53", func := "nursery/nurserylaw06.TimersLast", spec := "timersLast", inPlace := ["slices.overlaps[nursery/api.Timer]"], unfollowed := true, recurses := true, plainKeys := false, apart := false }
def TimersLastSaid : Prop := timersLastRow.holds Try.pinned (OpenSpec.ofChange timersLastSpec)

/-- ITS FALSE NEIGHBOUR: 'it returns false'. Refute it at one input. -/
def timersLastWrong : ChangeSpec := { name := "timersLast", fn := fun _ => fun
  | [d] => { results := [.lit (.bool false)], args := [d] }
  | _ => none }
def TimersLastWrongFalsely : Prop := timersLastRow.holds Try.pinned (OpenSpec.ofChange timersLastWrong)

/-- 'nurserylaw06.TimersFind': WHATEVER THE INPUT: true; the input reads as it did. -/
def timersFindSpec : ChangeSpec := { name := "timersFind", fn := fun _ => fun
  | [d1, d2, d3] => { results := [.lit (.bool true)], args := [d1, d2, d3] }
  | _ => none }
def timersFindRow : OpenClaim := { program := "ytiiegkaonlkgjaa", sum := "c6ceb8ff59966a953532fd144575f8bc076141455c87b0de322761f01a910b53", func := "nursery/nurserylaw06.TimersFind", spec := "timersFind", inPlace := ["slices.overlaps[nursery/api.Timer]"], unfollowed := true, recurses := true, plainKeys := false, apart := false }
def TimersFindSaid : Prop := timersFindRow.holds Try.pinned (OpenSpec.ofChange timersFindSpec)

/-- ITS FALSE NEIGHBOUR: 'it returns false'. Refute it at one input. -/
def timersFindWrong : ChangeSpec := { name := "timersFind", fn := fun _ => fun
  | [d1, d2, d3] => { results := [.lit (.bool false)], args := [d1, d2, d3] }
  | _ => none }
def TimersFindWrongFalsely : Prop := timersFindRow.holds Try.pinned (OpenSpec.ofChange timersFindWrong)

/-- 'nurserylaw06.TimersRun': WHATEVER THE INPUT: true; the input reads as it did. -/
def timersRunSpec : ChangeSpec := { name := "timersRun", fn := fun _ => fun
  | [d] => { results := [.lit (.bool true)], args := [d] }
  | _ => none }
def timersRunRow : OpenClaim := { program := "ytiiegkaonlkgjaa", sum := "c6ceb8ff59966a953532fd144575f8bc076141455c87b0de322761f01a910b53", func := "nursery/nurserylaw06.TimersRun", spec := "timersRun", inPlace := ["slices.overlaps[nursery/api.Timer]"], unfollowed := true, recurses := true, plainKeys := false, apart := false }
def TimersRunSaid : Prop := timersRunRow.holds Try.pinned (OpenSpec.ofChange timersRunSpec)

/-- ITS FALSE NEIGHBOUR: 'it returns false'. Refute it at one input. -/
def timersRunWrong : ChangeSpec := { name := "timersRun", fn := fun _ => fun
  | [d] => { results := [.lit (.bool false)], args := [d] }
  | _ => none }
def TimersRunWrongFalsely : Prop := timersRunRow.holds Try.pinned (OpenSpec.ofChange timersRunWrong)

/-- 'nurserylaw06.TimersOrders': WHATEVER THE INPUT: true; the input reads as it did. -/
def timersOrdersSpec : ChangeSpec := { name := "timersOrders", fn := fun _ => fun
  | [d1, d2] => { results := [.lit (.bool true)], args := [d1, d2] }
  | _ => none }
def timersOrdersRow : OpenClaim := { program := "ytiiegkaonlkgjaa", sum := "c6ceb8ff59966a953532fd144575f8bc076141455c87b0de322761f01a910b53", func := "nursery/nurserylaw06.TimersOrders", spec := "timersOrders", inPlace := ["slices.overlaps[nursery/api.Timer]"], unfollowed := true, recurses := true, plainKeys := false, apart := false }
def TimersOrdersSaid : Prop := timersOrdersRow.holds Try.pinned (OpenSpec.ofChange timersOrdersSpec)

/-- ITS FALSE NEIGHBOUR: 'it returns false'. Refute it at one input. -/
def timersOrdersWrong : ChangeSpec := { name := "timersOrders", fn := fun _ => fun
  | [d1, d2] => { results := [.lit (.bool false)], args := [d1, d2] }
  | _ => none }
def TimersOrdersWrongFalsely : Prop := timersOrdersRow.holds Try.pinned (OpenSpec.ofChange timersOrdersWrong)

/-- 'nurserylaw06.TimersReads': WHATEVER THE INPUT: true; the input reads as it did. -/
def timersReadsSpec : ChangeSpec := { name := "timersReads", fn := fun _ => fun
  | [d1, d2, d3, d4] => { results := [.lit (.bool true)], args := [d1, d2, d3, d4] }
  | _ => none }
def timersReadsRow : OpenClaim := { program := "ytiiegkaonlkgjaa", sum := "c6ceb8ff59966a953532fd144575f8bc076141455c87b0de322761f01a910b53", func := "nursery/nurserylaw06.TimersReads", spec := "timersReads", inPlace := ["slices.overlaps[nursery/api.Timer]"], unfollowed := true, recurses := true, plainKeys := false, apart := false }
def TimersReadsSaid : Prop := timersReadsRow.holds Try.pinned (OpenSpec.ofChange timersReadsSpec)

/-- ITS FALSE NEIGHBOUR: 'it returns false'. Refute it at one input. -/
def timersReadsWrong : ChangeSpec := { name := "timersReads", fn := fun _ => fun
  | [d1, d2, d3, d4] => { results := [.lit (.bool false)], args := [d1, d2, d3, d4] }
  | _ => none }
def TimersReadsWrongFalsely : Prop := timersReadsRow.holds Try.pinned (OpenSpec.ofChange timersReadsWrong)

/-- 'nurserylaw06.TimersExpire': WHATEVER THE INPUT: true; the input reads as it did. -/
def timersExpireSpec : ChangeSpec := { name := "timersExpire", fn := fun _ => fun
  | [d1, d2, d3] => { results := [.lit (.bool true)], args := [d1, d2, d3] }
  | _ => none }
def timersExpireRow : OpenClaim := { program := "ytiiegkaonlkgjaa", sum := "c6ceb8ff59966a953532fd144575f8bc076141455c87b0de322761f01a910b53", func := "nursery/nurserylaw06.TimersExpire", spec := "timersExpire", inPlace := ["slices.overlaps[nursery/api.Timer]"], unfollowed := true, recurses := true, plainKeys := false, apart := false }
def TimersExpireSaid : Prop := timersExpireRow.holds Try.pinned (OpenSpec.ofChange timersExpireSpec)

/-- ITS FALSE NEIGHBOUR: 'it returns false'. Refute it at one input. -/
def timersExpireWrong : ChangeSpec := { name := "timersExpire", fn := fun _ => fun
  | [d1, d2, d3] => { results := [.lit (.bool false)], args := [d1, d2, d3] }
  | _ => none }
def TimersExpireWrongFalsely : Prop := timersExpireRow.holds Try.pinned (OpenSpec.ofChange timersExpireWrong)

/- THE SECOND FORM. 'bulk': how many values and letters a reading holds, each counted each time it is reached (what is shared counts as often as it is met; a slice's spare places count too). A statement '..UptoSaid' is the law's where the arguments, and the package variables that the reading takes, are together of bulk at most 1048576: NARROWER than '..Said'. Prove '..Said' where nothing that the law and all that it calls make is longer than what came in: it says more and counts as full. Else prove '..UptoSaid'. A law counts once. -/
mutual
def uptoBulk {H : Type} : DataW H → Nat
  | .lit (.string bytes) => bytes.length + 1
  | .lit _ => 1
  | .nil => 1
  | .ptr d => uptoBulk d + 1
  | .slice elems spare => uptoBulkAll elems + uptoBulkAll spare + 1
  | .agg parts => uptoBulkAll parts + 1
  | .iface _ d => uptoBulk d + 1
  | .map entries => uptoBulkEntries entries + 1
  | .held _ => 1
def uptoBulkAll {H : Type} : List (DataW H) → Nat
  | [] => 0
  | d :: r => uptoBulk d + uptoBulkAll r
def uptoBulkEntries {H : Type} : List (Lit × DataW H) → Nat
  | [] => 0
  | x :: r => uptoBulkEntry x + uptoBulkEntries r
def uptoBulkEntry {H : Type} : Lit × DataW H → Nat
  | (.string bytes, d) => bytes.length + uptoBulk d + 1
  | (_, d) => uptoBulk d + 1
 end
def uptoSmall : (H : Type) → List (DataW H) → Bool := fun _ ds => decide (uptoBulkAll ds ≤ 1048576)
def OpenSpec.upto (s : _root_.Go.ChangeSpec) : _root_.Go.OpenSpec := { _root_.Go.OpenSpec.ofChange s with cond := some uptoSmall }

/-- 'nurserylaw06.TimersAdd', WHERE WHAT IT READS IS OF BULK AT MOST 1048576: true; the input reads as it did. -/
def timersAddUptoRow : OpenClaim := { program := "ytiiegkaonlkgjaa", sum := "c6ceb8ff59966a953532fd144575f8bc076141455c87b0de322761f01a910b53", func := "nursery/nurserylaw06.TimersAdd", spec := "timersAdd", inPlace := ["slices.overlaps[nursery/api.Timer]"], unfollowed := true, recurses := true, plainKeys := false, apart := false, narrowed := true }
def TimersAddUptoSaid : Prop := timersAddUptoRow.holds Try.pinned (OpenSpec.upto timersAddSpec)

/-- 'nurserylaw06.TimersRemoved', WHERE WHAT IT READS IS OF BULK AT MOST 1048576: true; the input reads as it did. -/
def timersRemovedUptoRow : OpenClaim := { program := "ytiiegkaonlkgjaa", sum := "c6ceb8ff59966a953532fd144575f8bc076141455c87b0de322761f01a910b53", func := "nursery/nurserylaw06.TimersRemoved", spec := "timersRemoved", inPlace := ["slices.overlaps[nursery/api.Timer]"], unfollowed := true, recurses := true, plainKeys := false, apart := false, narrowed := true }
def TimersRemovedUptoSaid : Prop := timersRemovedUptoRow.holds Try.pinned (OpenSpec.upto timersRemovedSpec)

/-- 'nurserylaw06.TimersLast', WHERE WHAT IT READS IS OF BULK AT MOST 1048576: true; the input reads as it did. -/
def timersLastUptoRow : OpenClaim := { program := "ytiiegkaonlkgjaa", sum := "c6ceb8ff59966a953532fd144575f8bc076141455c87b0de322761f01a910b53", func := "nursery/nurserylaw06.TimersLast", spec := "timersLast", inPlace := ["slices.overlaps[nursery/api.Timer]"], unfollowed := true, recurses := true, plainKeys := false, apart := false, narrowed := true }
def TimersLastUptoSaid : Prop := timersLastUptoRow.holds Try.pinned (OpenSpec.upto timersLastSpec)

/-- 'nurserylaw06.TimersFind', WHERE WHAT IT READS IS OF BULK AT MOST 1048576: true; the input reads as it did. -/
def timersFindUptoRow : OpenClaim := { program := "ytiiegkaonlkgjaa", sum := "c6ceb8ff59966a953532fd144575f8bc076141455c87b0de322761f01a910b53", func := "nursery/nurserylaw06.TimersFind", spec := "timersFind", inPlace := ["slices.overlaps[nursery/api.Timer]"], unfollowed := true, recurses := true, plainKeys := false, apart := false, narrowed := true }
def TimersFindUptoSaid : Prop := timersFindUptoRow.holds Try.pinned (OpenSpec.upto timersFindSpec)

/-- 'nurserylaw06.TimersRun', WHERE WHAT IT READS IS OF BULK AT MOST 1048576: true; the input reads as it did. -/
def timersRunUptoRow : OpenClaim := { program := "ytiiegkaonlkgjaa", sum := "c6ceb8ff59966a953532fd144575f8bc076141455c87b0de322761f01a910b53", func := "nursery/nurserylaw06.TimersRun", spec := "timersRun", inPlace := ["slices.overlaps[nursery/api.Timer]"], unfollowed := true, recurses := true, plainKeys := false, apart := false, narrowed := true }
def TimersRunUptoSaid : Prop := timersRunUptoRow.holds Try.pinned (OpenSpec.upto timersRunSpec)

/-- 'nurserylaw06.TimersOrders', WHERE WHAT IT READS IS OF BULK AT MOST 1048576: true; the input reads as it did. -/
def timersOrdersUptoRow : OpenClaim := { program := "ytiiegkaonlkgjaa", sum := "c6ceb8ff59966a953532fd144575f8bc076141455c87b0de322761f01a910b53", func := "nursery/nurserylaw06.TimersOrders", spec := "timersOrders", inPlace := ["slices.overlaps[nursery/api.Timer]"], unfollowed := true, recurses := true, plainKeys := false, apart := false, narrowed := true }
def TimersOrdersUptoSaid : Prop := timersOrdersUptoRow.holds Try.pinned (OpenSpec.upto timersOrdersSpec)

/-- 'nurserylaw06.TimersReads', WHERE WHAT IT READS IS OF BULK AT MOST 1048576: true; the input reads as it did. -/
def timersReadsUptoRow : OpenClaim := { program := "ytiiegkaonlkgjaa", sum := "c6ceb8ff59966a953532fd144575f8bc076141455c87b0de322761f01a910b53", func := "nursery/nurserylaw06.TimersReads", spec := "timersReads", inPlace := ["slices.overlaps[nursery/api.Timer]"], unfollowed := true, recurses := true, plainKeys := false, apart := false, narrowed := true }
def TimersReadsUptoSaid : Prop := timersReadsUptoRow.holds Try.pinned (OpenSpec.upto timersReadsSpec)

/-- 'nurserylaw06.TimersExpire', WHERE WHAT IT READS IS OF BULK AT MOST 1048576: true; the input reads as it did. -/
def timersExpireUptoRow : OpenClaim := { program := "ytiiegkaonlkgjaa", sum := "c6ceb8ff59966a953532fd144575f8bc076141455c87b0de322761f01a910b53", func := "nursery/nurserylaw06.TimersExpire", spec := "timersExpire", inPlace := ["slices.overlaps[nursery/api.Timer]"], unfollowed := true, recurses := true, plainKeys := false, apart := false, narrowed := true }
def TimersExpireUptoSaid : Prop := timersExpireUptoRow.holds Try.pinned (OpenSpec.upto timersExpireSpec)

end Rows
end Go.Proofs.Ytiiegkaonlkgjaa
