/-
  No cell of these rows narrows 'for every input' (looked for: loops, veiled, ifaces, maps, wideKeys, modest, calm, conditions, laid).
  DERIVED. THE GIVEN ROWS OF THIS SEAT. 8 by the template 'for every input the law returns true; each argument reads behind the call as it read before'; 0 by the template 'total and deterministic' (their statements: YteaiefkadmlabaaTotals.lean).
  GIVEN WITH THE SEED: the statements are not yours to turn. If you find one false, say at which input.
  Laid BY PROGRAM, IN A SANDBOX (cutbox-rows.mjs): the forced cells as the released guide's own fill.sh prints them over the translation 987414aa50065d83… (all of the seat's roots in one cut). By AI agents, Wed Nov 11 2026. No macro, syntax, notation, axiom, sorry.
-/
import Derived.Test.YteaiefkadmlabaaChecked
import GoSem.Claim
import GoSem.ClaimJoined
import GoSem.ClaimMapViews
import Derived.JoinedTies
import Derived.KernelRfl
namespace Go.Proofs.Yteaiefkadmlabaa
/- THE CELL 'sum', in the pinned program and in every row, IS THE sha256 OF THE DUMP (.gsa) THAT YteaiefkadmlabaaProg.lean LOADS. Nothing in Lean hashes anything: it is a label: what it is worth is what the hold of that sum in a sandbox is worth. -/
noncomputable def Try.pinned : Pinned := { name := "yteaiefkadmlabaa", sum := "987414aa50065d83b775efa5cc0272fd5ae1cef7ad8bce5dd7fe468c714c11f0", checked := Try.checked }
namespace Rows
def none {H : Type} : Left H := { results := [], args := [] }

/-- 'coppicelaw9.CutFits': WHATEVER THE INPUT: true; the input reads as it did. -/
def cutFitsSpec : ChangeSpec := { name := "cutFits", fn := fun _ => fun
  | [d] => { results := [.lit (.bool true)], args := [d] }
  | _ => none }
def cutFitsRow : OpenClaim := { program := "yteaiefkadmlabaa", sum := "987414aa50065d83b775efa5cc0272fd5ae1cef7ad8bce5dd7fe468c714c11f0", func := "coppice/coppicelaw9.CutFits", spec := "cutFits", unfollowed := true, recurses := true, apart := false }
def CutFitsSaid : Prop := cutFitsRow.holds Try.pinned (OpenSpec.ofChange cutFitsSpec)

/-- ITS FALSE NEIGHBOUR: 'it returns false'. Refute it at one input. -/
def cutFitsWrong : ChangeSpec := { name := "cutFits", fn := fun _ => fun
  | [d] => { results := [.lit (.bool false)], args := [d] }
  | _ => none }
def CutFitsWrongFalsely : Prop := cutFitsRow.holds Try.pinned (OpenSpec.ofChange cutFitsWrong)

/-- 'coppicelaw9.CutLeaves': WHATEVER THE INPUT: true; the input reads as it did. -/
def cutLeavesSpec : ChangeSpec := { name := "cutLeaves", fn := fun _ => fun
  | [d] => { results := [.lit (.bool true)], args := [d] }
  | _ => none }
def cutLeavesRow : OpenClaim := { program := "yteaiefkadmlabaa", sum := "987414aa50065d83b775efa5cc0272fd5ae1cef7ad8bce5dd7fe468c714c11f0", func := "coppice/coppicelaw9.CutLeaves", spec := "cutLeaves", unfollowed := true, recurses := true, apart := false }
def CutLeavesSaid : Prop := cutLeavesRow.holds Try.pinned (OpenSpec.ofChange cutLeavesSpec)

/-- ITS FALSE NEIGHBOUR: 'it returns false'. Refute it at one input. -/
def cutLeavesWrong : ChangeSpec := { name := "cutLeaves", fn := fun _ => fun
  | [d] => { results := [.lit (.bool false)], args := [d] }
  | _ => none }
def CutLeavesWrongFalsely : Prop := cutLeavesRow.holds Try.pinned (OpenSpec.ofChange cutLeavesWrong)

/-- 'coppicelaw9.CutBranches': WHATEVER THE INPUT: true; the input reads as it did. -/
def cutBranchesSpec : ChangeSpec := { name := "cutBranches", fn := fun _ => fun
  | [d] => { results := [.lit (.bool true)], args := [d] }
  | _ => none }
def cutBranchesRow : OpenClaim := { program := "yteaiefkadmlabaa", sum := "987414aa50065d83b775efa5cc0272fd5ae1cef7ad8bce5dd7fe468c714c11f0", func := "coppice/coppicelaw9.CutBranches", spec := "cutBranches", unfollowed := true, recurses := true, apart := false }
def CutBranchesSaid : Prop := cutBranchesRow.holds Try.pinned (OpenSpec.ofChange cutBranchesSpec)

/-- ITS FALSE NEIGHBOUR: 'it returns false'. Refute it at one input. -/
def cutBranchesWrong : ChangeSpec := { name := "cutBranches", fn := fun _ => fun
  | [d] => { results := [.lit (.bool false)], args := [d] }
  | _ => none }
def CutBranchesWrongFalsely : Prop := cutBranchesRow.holds Try.pinned (OpenSpec.ofChange cutBranchesWrong)

/-- 'coppicelaw9.CutJoins': WHATEVER THE INPUT: true; the input reads as it did. -/
def cutJoinsSpec : ChangeSpec := { name := "cutJoins", fn := fun _ => fun
  | [d1, d2, d3, d4, d5] => { results := [.lit (.bool true)], args := [d1, d2, d3, d4, d5] }
  | _ => none }
def cutJoinsRow : OpenClaim := { program := "yteaiefkadmlabaa", sum := "987414aa50065d83b775efa5cc0272fd5ae1cef7ad8bce5dd7fe468c714c11f0", func := "coppice/coppicelaw9.CutJoins", spec := "cutJoins", unfollowed := true, recurses := true, apart := false }
def CutJoinsSaid : Prop := cutJoinsRow.holds Try.pinned (OpenSpec.ofChange cutJoinsSpec)

/-- ITS FALSE NEIGHBOUR: 'it returns false'. Refute it at one input. -/
def cutJoinsWrong : ChangeSpec := { name := "cutJoins", fn := fun _ => fun
  | [d1, d2, d3, d4, d5] => { results := [.lit (.bool false)], args := [d1, d2, d3, d4, d5] }
  | _ => none }
def CutJoinsWrongFalsely : Prop := cutJoinsRow.holds Try.pinned (OpenSpec.ofChange cutJoinsWrong)

/-- 'coppicelaw9.CutSmaller': WHATEVER THE INPUT: true; the input reads as it did. -/
def cutSmallerSpec : ChangeSpec := { name := "cutSmaller", fn := fun _ => fun
  | [d1, d2, d3] => { results := [.lit (.bool true)], args := [d1, d2, d3] }
  | _ => none }
def cutSmallerRow : OpenClaim := { program := "yteaiefkadmlabaa", sum := "987414aa50065d83b775efa5cc0272fd5ae1cef7ad8bce5dd7fe468c714c11f0", func := "coppice/coppicelaw9.CutSmaller", spec := "cutSmaller", unfollowed := true, recurses := true, apart := false }
def CutSmallerSaid : Prop := cutSmallerRow.holds Try.pinned (OpenSpec.ofChange cutSmallerSpec)

/-- ITS FALSE NEIGHBOUR: 'it returns false'. Refute it at one input. -/
def cutSmallerWrong : ChangeSpec := { name := "cutSmaller", fn := fun _ => fun
  | [d1, d2, d3] => { results := [.lit (.bool false)], args := [d1, d2, d3] }
  | _ => none }
def CutSmallerWrongFalsely : Prop := cutSmallerRow.holds Try.pinned (OpenSpec.ofChange cutSmallerWrong)

/-- 'coppicelaw9.CutAlways': WHATEVER THE INPUT: true; the input reads as it did. -/
def cutAlwaysSpec : ChangeSpec := { name := "cutAlways", fn := fun _ => fun
  | [d1, d2] => { results := [.lit (.bool true)], args := [d1, d2] }
  | _ => none }
def cutAlwaysRow : OpenClaim := { program := "yteaiefkadmlabaa", sum := "987414aa50065d83b775efa5cc0272fd5ae1cef7ad8bce5dd7fe468c714c11f0", func := "coppice/coppicelaw9.CutAlways", spec := "cutAlways", unfollowed := true, recurses := true, apart := false }
def CutAlwaysSaid : Prop := cutAlwaysRow.holds Try.pinned (OpenSpec.ofChange cutAlwaysSpec)

/-- ITS FALSE NEIGHBOUR: 'it returns false'. Refute it at one input. -/
def cutAlwaysWrong : ChangeSpec := { name := "cutAlways", fn := fun _ => fun
  | [d1, d2] => { results := [.lit (.bool false)], args := [d1, d2] }
  | _ => none }
def CutAlwaysWrongFalsely : Prop := cutAlwaysRow.holds Try.pinned (OpenSpec.ofChange cutAlwaysWrong)

/-- 'coppicelaw9.CutBranchesAlways': WHATEVER THE INPUT: true; the input reads as it did. -/
def cutBranchesAlwaysSpec : ChangeSpec := { name := "cutBranchesAlways", fn := fun _ => fun
  | [d1, d2] => { results := [.lit (.bool true)], args := [d1, d2] }
  | _ => none }
def cutBranchesAlwaysRow : OpenClaim := { program := "yteaiefkadmlabaa", sum := "987414aa50065d83b775efa5cc0272fd5ae1cef7ad8bce5dd7fe468c714c11f0", func := "coppice/coppicelaw9.CutBranchesAlways", spec := "cutBranchesAlways", unfollowed := true, recurses := true, apart := false }
def CutBranchesAlwaysSaid : Prop := cutBranchesAlwaysRow.holds Try.pinned (OpenSpec.ofChange cutBranchesAlwaysSpec)

/-- ITS FALSE NEIGHBOUR: 'it returns false'. Refute it at one input. -/
def cutBranchesAlwaysWrong : ChangeSpec := { name := "cutBranchesAlways", fn := fun _ => fun
  | [d1, d2] => { results := [.lit (.bool false)], args := [d1, d2] }
  | _ => none }
def CutBranchesAlwaysWrongFalsely : Prop := cutBranchesAlwaysRow.holds Try.pinned (OpenSpec.ofChange cutBranchesAlwaysWrong)

/-- 'coppicelaw9.CutOwn': WHATEVER THE INPUT: true; the input reads as it did. -/
def cutOwnSpec : ChangeSpec := { name := "cutOwn", fn := fun _ => fun
  | [d1, d2, d3] => { results := [.lit (.bool true)], args := [d1, d2, d3] }
  | _ => none }
def cutOwnRow : OpenClaim := { program := "yteaiefkadmlabaa", sum := "987414aa50065d83b775efa5cc0272fd5ae1cef7ad8bce5dd7fe468c714c11f0", func := "coppice/coppicelaw9.CutOwn", spec := "cutOwn", unfollowed := true, recurses := true, apart := false }
def CutOwnSaid : Prop := cutOwnRow.holds Try.pinned (OpenSpec.ofChange cutOwnSpec)

/-- ITS FALSE NEIGHBOUR: 'it returns false'. Refute it at one input. -/
def cutOwnWrong : ChangeSpec := { name := "cutOwn", fn := fun _ => fun
  | [d1, d2, d3] => { results := [.lit (.bool false)], args := [d1, d2, d3] }
  | _ => none }
def CutOwnWrongFalsely : Prop := cutOwnRow.holds Try.pinned (OpenSpec.ofChange cutOwnWrong)

/- THE SECOND FORM. 'bulk': how many values and letters a reading holds, each counted each time it is reached (what is shared counts as often as it is met; a slice's spare places count too). A statement '..UptoSaid' is the law's where the arguments, and the package variables that the reading takes, are together of bulk at most 1048576: NARROWER than '..Said'. Prove '..Said' where nothing that the law and all that it calls make is longer than what came in: it says more and counts as full. Else prove '..UptoSaid'. A law counts once. -/
mutual
def uptoBulk {H : Type} : DataW H → Nat
  | .lit (.string bytes) => bytes.length + 1
  | .lit _ => 1
  | .nil => 1
  | .ptr d => uptoBulk d + 1
  | .slice elems spare => uptoBulkAll elems + uptoBulkAll spare + 1
  | .agg parts => uptoBulkAll parts + 1
  | .iface _ d => uptoBulk d + 1
  | .map entries => uptoBulkEntries entries + 1
  | .held _ => 1
def uptoBulkAll {H : Type} : List (DataW H) → Nat
  | [] => 0
  | d :: r => uptoBulk d + uptoBulkAll r
def uptoBulkEntries {H : Type} : List (Lit × DataW H) → Nat
  | [] => 0
  | x :: r => uptoBulkEntry x + uptoBulkEntries r
def uptoBulkEntry {H : Type} : Lit × DataW H → Nat
  | (.string bytes, d) => bytes.length + uptoBulk d + 1
  | (_, d) => uptoBulk d + 1
 end
def uptoSmall : (H : Type) → List (DataW H) → Bool := fun _ ds => decide (uptoBulkAll ds ≤ 1048576)
def OpenSpec.upto (s : _root_.Go.ChangeSpec) : _root_.Go.OpenSpec := { _root_.Go.OpenSpec.ofChange s with cond := some uptoSmall }

/-- 'coppicelaw9.CutFits', WHERE WHAT IT READS IS OF BULK AT MOST 1048576: true; the input reads as it did. -/
def cutFitsUptoRow : OpenClaim := { program := "yteaiefkadmlabaa", sum := "987414aa50065d83b775efa5cc0272fd5ae1cef7ad8bce5dd7fe468c714c11f0", func := "coppice/coppicelaw9.CutFits", spec := "cutFits", unfollowed := true, recurses := true, apart := false, narrowed := true }
def CutFitsUptoSaid : Prop := cutFitsUptoRow.holds Try.pinned (OpenSpec.upto cutFitsSpec)

/-- 'coppicelaw9.CutLeaves', WHERE WHAT IT READS IS OF BULK AT MOST 1048576: true; the input reads as it did. -/
def cutLeavesUptoRow : OpenClaim := { program := "yteaiefkadmlabaa", sum := "987414aa50065d83b775efa5cc0272fd5ae1cef7ad8bce5dd7fe468c714c11f0", func := "coppice/coppicelaw9.CutLeaves", spec := "cutLeaves", unfollowed := true, recurses := true, apart := false, narrowed := true }
def CutLeavesUptoSaid : Prop := cutLeavesUptoRow.holds Try.pinned (OpenSpec.upto cutLeavesSpec)

/-- 'coppicelaw9.CutBranches', WHERE WHAT IT READS IS OF BULK AT MOST 1048576: true; the input reads as it did. -/
def cutBranchesUptoRow : OpenClaim := { program := "yteaiefkadmlabaa", sum := "987414aa50065d83b775efa5cc0272fd5ae1cef7ad8bce5dd7fe468c714c11f0", func := "coppice/coppicelaw9.CutBranches", spec := "cutBranches", unfollowed := true, recurses := true, apart := false, narrowed := true }
def CutBranchesUptoSaid : Prop := cutBranchesUptoRow.holds Try.pinned (OpenSpec.upto cutBranchesSpec)

/-- 'coppicelaw9.CutJoins', WHERE WHAT IT READS IS OF BULK AT MOST 1048576: true; the input reads as it did. -/
def cutJoinsUptoRow : OpenClaim := { program := "yteaiefkadmlabaa", sum := "987414aa50065d83b775efa5cc0272fd5ae1cef7ad8bce5dd7fe468c714c11f0", func := "coppice/coppicelaw9.CutJoins", spec := "cutJoins", unfollowed := true, recurses := true, apart := false, narrowed := true }
def CutJoinsUptoSaid : Prop := cutJoinsUptoRow.holds Try.pinned (OpenSpec.upto cutJoinsSpec)

/-- 'coppicelaw9.CutSmaller', WHERE WHAT IT READS IS OF BULK AT MOST 1048576: true; the input reads as it did. -/
def cutSmallerUptoRow : OpenClaim := { program := "yteaiefkadmlabaa", sum := "987414aa50065d83b775efa5cc0272fd5ae1cef7ad8bce5dd7fe468c714c11f0", func := "coppice/coppicelaw9.CutSmaller", spec := "cutSmaller", unfollowed := true, recurses := true, apart := false, narrowed := true }
def CutSmallerUptoSaid : Prop := cutSmallerUptoRow.holds Try.pinned (OpenSpec.upto cutSmallerSpec)

/-- 'coppicelaw9.CutAlways', WHERE WHAT IT READS IS OF BULK AT MOST 1048576: true; the input reads as it did. -/
def cutAlwaysUptoRow : OpenClaim := { program := "yteaiefkadmlabaa", sum := "987414aa50065d83b775efa5cc0272fd5ae1cef7ad8bce5dd7fe468c714c11f0", func := "coppice/coppicelaw9.CutAlways", spec := "cutAlways", unfollowed := true, recurses := true, apart := false, narrowed := true }
def CutAlwaysUptoSaid : Prop := cutAlwaysUptoRow.holds Try.pinned (OpenSpec.upto cutAlwaysSpec)

/-- 'coppicelaw9.CutBranchesAlways', WHERE WHAT IT READS IS OF BULK AT MOST 1048576: true; the input reads as it did. -/
def cutBranchesAlwaysUptoRow : OpenClaim := { program := "yteaiefkadmlabaa", sum := "987414aa50065d83b775efa5cc0272fd5ae1cef7ad8bce5dd7fe468c714c11f0", func := "coppice/coppicelaw9.CutBranchesAlways", spec := "cutBranchesAlways", unfollowed := true, recurses := true, apart := false, narrowed := true }
def CutBranchesAlwaysUptoSaid : Prop := cutBranchesAlwaysUptoRow.holds Try.pinned (OpenSpec.upto cutBranchesAlwaysSpec)

/-- 'coppicelaw9.CutOwn', WHERE WHAT IT READS IS OF BULK AT MOST 1048576: true; the input reads as it did. -/
def cutOwnUptoRow : OpenClaim := { program := "yteaiefkadmlabaa", sum := "987414aa50065d83b775efa5cc0272fd5ae1cef7ad8bce5dd7fe468c714c11f0", func := "coppice/coppicelaw9.CutOwn", spec := "cutOwn", unfollowed := true, recurses := true, apart := false, narrowed := true }
def CutOwnUptoSaid : Prop := cutOwnUptoRow.holds Try.pinned (OpenSpec.upto cutOwnSpec)

end Rows
end Go.Proofs.Yteaiefkadmlabaa
