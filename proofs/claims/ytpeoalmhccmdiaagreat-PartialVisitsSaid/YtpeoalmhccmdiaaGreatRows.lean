/-
  No cell of these rows narrows 'for every input' (looked for: loops, veiled, ifaces, maps, wideKeys, modest, calm, conditions, laid).
  DERIVED. THE GIVEN ROWS OF THIS SEAT. 11 by the template 'for every input the law returns true; each argument reads behind the call as it read before'; 0 by the template 'total and deterministic' (their statements: YtpeoalmhccmdiaaGreatTotals.lean).
  GIVEN WITH THE SEED: the statements are not yours to turn. If you find one false, say at which input.
  Laid BY PROGRAM, IN A SANDBOX (cutbox-rows.mjs): the forced cells as the released guide's own fill.sh prints them over the translation 59e4949b50ef4169… (all of the seat's roots in one cut). By AI agents, Wed Nov 11 2026. No macro, syntax, notation, axiom, sorry.
-/
import Derived.Test.YtpeoalmhccmdiaaGreatChecked
import GoSem.Claim
import GoSem.ClaimJoined
import GoSem.ClaimMapViews
import Derived.JoinedTies
import Derived.KernelRfl
namespace Go.Proofs.YtpeoalmhccmdiaaGreat
/- THE CELL 'sum', in the pinned program and in every row, IS THE sha256 OF THE DUMP (.gsa) THAT YtpeoalmhccmdiaaGreatProg.lean LOADS. Nothing in Lean hashes anything: it is a label: what it is worth is what the hold of that sum in a sandbox is worth. -/
noncomputable def Tryz.pinned : Pinned := { name := "ytpeoalmhccmdiaagreat", sum := "59e4949b50ef41699f3c0c779f59e235289a44dc7c8b7c572d60ca7234e83be0", checked := Tryz.checked }
namespace Rows
def none {H : Type} : Left H := { results := [], args := [] }

/-- 'whilomlaw12.PartialMarks': WHATEVER THE INPUT: true; the input reads as it did. -/
def partialMarksSpec : ChangeSpec := { name := "partialMarks", fn := fun _ => fun
  | [d] => { results := [.lit (.bool true)], args := [d] }
  | _ => none }
def partialMarksRow : OpenClaim := { program := "ytpeoalmhccmdiaagreat", sum := "59e4949b50ef41699f3c0c779f59e235289a44dc7c8b7c572d60ca7234e83be0", func := "whilom/whilomlaw12.PartialMarks", spec := "partialMarks", unfollowed := true, recurses := true, apart := false }
def PartialMarksSaid : Prop := partialMarksRow.holds Tryz.pinned (OpenSpec.ofChange partialMarksSpec)

/-- ITS FALSE NEIGHBOUR: 'it returns false'. Refute it at one input. -/
def partialMarksWrong : ChangeSpec := { name := "partialMarks", fn := fun _ => fun
  | [d] => { results := [.lit (.bool false)], args := [d] }
  | _ => none }
def PartialMarksWrongFalsely : Prop := partialMarksRow.holds Tryz.pinned (OpenSpec.ofChange partialMarksWrong)

/-- 'whilomlaw12.PartialVisits': WHATEVER THE INPUT: true; the input reads as it did. -/
def partialVisitsSpec : ChangeSpec := { name := "partialVisits", fn := fun _ => fun
  | [d] => { results := [.lit (.bool true)], args := [d] }
  | _ => none }
def partialVisitsRow : OpenClaim := { program := "ytpeoalmhccmdiaagreat", sum := "59e4949b50ef41699f3c0c779f59e235289a44dc7c8b7c572d60ca7234e83be0", func := "whilom/whilomlaw12.PartialVisits", spec := "partialVisits", unfollowed := true, recurses := true, apart := false }
def PartialVisitsSaid : Prop := partialVisitsRow.holds Tryz.pinned (OpenSpec.ofChange partialVisitsSpec)

/-- ITS FALSE NEIGHBOUR: 'it returns false'. Refute it at one input. -/
def partialVisitsWrong : ChangeSpec := { name := "partialVisits", fn := fun _ => fun
  | [d] => { results := [.lit (.bool false)], args := [d] }
  | _ => none }
def PartialVisitsWrongFalsely : Prop := partialVisitsRow.holds Tryz.pinned (OpenSpec.ofChange partialVisitsWrong)

/-- 'whilomlaw12.PartialCounts': WHATEVER THE INPUT: true; the input reads as it did. -/
def partialCountsSpec : ChangeSpec := { name := "partialCounts", fn := fun _ => fun
  | [d] => { results := [.lit (.bool true)], args := [d] }
  | _ => none }
def partialCountsRow : OpenClaim := { program := "ytpeoalmhccmdiaagreat", sum := "59e4949b50ef41699f3c0c779f59e235289a44dc7c8b7c572d60ca7234e83be0", func := "whilom/whilomlaw12.PartialCounts", spec := "partialCounts", unfollowed := true, recurses := true, apart := false }
def PartialCountsSaid : Prop := partialCountsRow.holds Tryz.pinned (OpenSpec.ofChange partialCountsSpec)

/-- ITS FALSE NEIGHBOUR: 'it returns false'. Refute it at one input. -/
def partialCountsWrong : ChangeSpec := { name := "partialCounts", fn := fun _ => fun
  | [d] => { results := [.lit (.bool false)], args := [d] }
  | _ => none }
def PartialCountsWrongFalsely : Prop := partialCountsRow.holds Tryz.pinned (OpenSpec.ofChange partialCountsWrong)

/-- 'whilomlaw12.PartialOne': WHATEVER THE INPUT: true; the input reads as it did. -/
def partialOneSpec : ChangeSpec := { name := "partialOne", fn := fun _ => fun
  | [d1, d2] => { results := [.lit (.bool true)], args := [d1, d2] }
  | _ => none }
def partialOneRow : OpenClaim := { program := "ytpeoalmhccmdiaagreat", sum := "59e4949b50ef41699f3c0c779f59e235289a44dc7c8b7c572d60ca7234e83be0", func := "whilom/whilomlaw12.PartialOne", spec := "partialOne", unfollowed := true, recurses := true, apart := false }
def PartialOneSaid : Prop := partialOneRow.holds Tryz.pinned (OpenSpec.ofChange partialOneSpec)

/-- ITS FALSE NEIGHBOUR: 'it returns false'. Refute it at one input. -/
def partialOneWrong : ChangeSpec := { name := "partialOne", fn := fun _ => fun
  | [d1, d2] => { results := [.lit (.bool false)], args := [d1, d2] }
  | _ => none }
def PartialOneWrongFalsely : Prop := partialOneRow.holds Tryz.pinned (OpenSpec.ofChange partialOneWrong)

/-- 'whilomlaw12.PartialActs': WHATEVER THE INPUT: true; the input reads as it did. -/
def partialActsSpec : ChangeSpec := { name := "partialActs", fn := fun _ => fun
  | [d1, d2] => { results := [.lit (.bool true)], args := [d1, d2] }
  | _ => none }
def partialActsRow : OpenClaim := { program := "ytpeoalmhccmdiaagreat", sum := "59e4949b50ef41699f3c0c779f59e235289a44dc7c8b7c572d60ca7234e83be0", func := "whilom/whilomlaw12.PartialActs", spec := "partialActs", unfollowed := true, recurses := true, apart := false }
def PartialActsSaid : Prop := partialActsRow.holds Tryz.pinned (OpenSpec.ofChange partialActsSpec)

/-- ITS FALSE NEIGHBOUR: 'it returns false'. Refute it at one input. -/
def partialActsWrong : ChangeSpec := { name := "partialActs", fn := fun _ => fun
  | [d1, d2] => { results := [.lit (.bool false)], args := [d1, d2] }
  | _ => none }
def PartialActsWrongFalsely : Prop := partialActsRow.holds Tryz.pinned (OpenSpec.ofChange partialActsWrong)

/-- 'whilomlaw12.PartialOrder': WHATEVER THE INPUT: true; the input reads as it did. -/
def partialOrderSpec : ChangeSpec := { name := "partialOrder", fn := fun _ => fun
  | [d1, d2] => { results := [.lit (.bool true)], args := [d1, d2] }
  | _ => none }
def partialOrderRow : OpenClaim := { program := "ytpeoalmhccmdiaagreat", sum := "59e4949b50ef41699f3c0c779f59e235289a44dc7c8b7c572d60ca7234e83be0", func := "whilom/whilomlaw12.PartialOrder", spec := "partialOrder", unfollowed := true, recurses := true, apart := false }
def PartialOrderSaid : Prop := partialOrderRow.holds Tryz.pinned (OpenSpec.ofChange partialOrderSpec)

/-- ITS FALSE NEIGHBOUR: 'it returns false'. Refute it at one input. -/
def partialOrderWrong : ChangeSpec := { name := "partialOrder", fn := fun _ => fun
  | [d1, d2] => { results := [.lit (.bool false)], args := [d1, d2] }
  | _ => none }
def PartialOrderWrongFalsely : Prop := partialOrderRow.holds Tryz.pinned (OpenSpec.ofChange partialOrderWrong)

/-- 'whilomlaw13.FuseCounts': WHATEVER THE INPUT: true; the input reads as it did. -/
def fuseCountsSpec : ChangeSpec := { name := "fuseCounts", fn := fun _ => fun
  | [d] => { results := [.lit (.bool true)], args := [d] }
  | _ => none }
def fuseCountsRow : OpenClaim := { program := "ytpeoalmhccmdiaagreat", sum := "59e4949b50ef41699f3c0c779f59e235289a44dc7c8b7c572d60ca7234e83be0", func := "whilom/whilomlaw13.FuseCounts", spec := "fuseCounts", unfollowed := true, recurses := true, apart := false }
def FuseCountsSaid : Prop := fuseCountsRow.holds Tryz.pinned (OpenSpec.ofChange fuseCountsSpec)

/-- ITS FALSE NEIGHBOUR: 'it returns false'. Refute it at one input. -/
def fuseCountsWrong : ChangeSpec := { name := "fuseCounts", fn := fun _ => fun
  | [d] => { results := [.lit (.bool false)], args := [d] }
  | _ => none }
def FuseCountsWrongFalsely : Prop := fuseCountsRow.holds Tryz.pinned (OpenSpec.ofChange fuseCountsWrong)

/-- 'whilomlaw13.FuseHas': WHATEVER THE INPUT: true; the input reads as it did. -/
def fuseHasSpec : ChangeSpec := { name := "fuseHas", fn := fun _ => fun
  | [d1, d2] => { results := [.lit (.bool true)], args := [d1, d2] }
  | _ => none }
def fuseHasRow : OpenClaim := { program := "ytpeoalmhccmdiaagreat", sum := "59e4949b50ef41699f3c0c779f59e235289a44dc7c8b7c572d60ca7234e83be0", func := "whilom/whilomlaw13.FuseHas", spec := "fuseHas", unfollowed := true, recurses := true, apart := false }
def FuseHasSaid : Prop := fuseHasRow.holds Tryz.pinned (OpenSpec.ofChange fuseHasSpec)

/-- ITS FALSE NEIGHBOUR: 'it returns false'. Refute it at one input. -/
def fuseHasWrong : ChangeSpec := { name := "fuseHas", fn := fun _ => fun
  | [d1, d2] => { results := [.lit (.bool false)], args := [d1, d2] }
  | _ => none }
def FuseHasWrongFalsely : Prop := fuseHasRow.holds Tryz.pinned (OpenSpec.ofChange fuseHasWrong)

/-- 'whilomlaw13.FuseLeaves': WHATEVER THE INPUT: true; the input reads as it did. -/
def fuseLeavesSpec : ChangeSpec := { name := "fuseLeaves", fn := fun _ => fun
  | [d] => { results := [.lit (.bool true)], args := [d] }
  | _ => none }
def fuseLeavesRow : OpenClaim := { program := "ytpeoalmhccmdiaagreat", sum := "59e4949b50ef41699f3c0c779f59e235289a44dc7c8b7c572d60ca7234e83be0", func := "whilom/whilomlaw13.FuseLeaves", spec := "fuseLeaves", unfollowed := true, recurses := true, apart := false }
def FuseLeavesSaid : Prop := fuseLeavesRow.holds Tryz.pinned (OpenSpec.ofChange fuseLeavesSpec)

/-- ITS FALSE NEIGHBOUR: 'it returns false'. Refute it at one input. -/
def fuseLeavesWrong : ChangeSpec := { name := "fuseLeaves", fn := fun _ => fun
  | [d] => { results := [.lit (.bool false)], args := [d] }
  | _ => none }
def FuseLeavesWrongFalsely : Prop := fuseLeavesRow.holds Tryz.pinned (OpenSpec.ofChange fuseLeavesWrong)

/-- 'whilomlaw13.FuseParts': WHATEVER THE INPUT: true; the input reads as it did. -/
def fusePartsSpec : ChangeSpec := { name := "fuseParts", fn := fun _ => fun
  | [d1, d2, d3] => { results := [.lit (.bool true)], args := [d1, d2, d3] }
  | _ => none }
def fusePartsRow : OpenClaim := { program := "ytpeoalmhccmdiaagreat", sum := "59e4949b50ef41699f3c0c779f59e235289a44dc7c8b7c572d60ca7234e83be0", func := "whilom/whilomlaw13.FuseParts", spec := "fuseParts", unfollowed := true, recurses := true, apart := false }
def FusePartsSaid : Prop := fusePartsRow.holds Tryz.pinned (OpenSpec.ofChange fusePartsSpec)

/-- ITS FALSE NEIGHBOUR: 'it returns false'. Refute it at one input. -/
def fusePartsWrong : ChangeSpec := { name := "fuseParts", fn := fun _ => fun
  | [d1, d2, d3] => { results := [.lit (.bool false)], args := [d1, d2, d3] }
  | _ => none }
def FusePartsWrongFalsely : Prop := fusePartsRow.holds Tryz.pinned (OpenSpec.ofChange fusePartsWrong)

/-- 'whilomlaw13.FuseStays': WHATEVER THE INPUT: true; the input reads as it did. -/
def fuseStaysSpec : ChangeSpec := { name := "fuseStays", fn := fun _ => fun
  | [d1, d2, d3] => { results := [.lit (.bool true)], args := [d1, d2, d3] }
  | _ => none }
def fuseStaysRow : OpenClaim := { program := "ytpeoalmhccmdiaagreat", sum := "59e4949b50ef41699f3c0c779f59e235289a44dc7c8b7c572d60ca7234e83be0", func := "whilom/whilomlaw13.FuseStays", spec := "fuseStays", unfollowed := true, recurses := true, apart := false }
def FuseStaysSaid : Prop := fuseStaysRow.holds Tryz.pinned (OpenSpec.ofChange fuseStaysSpec)

/-- ITS FALSE NEIGHBOUR: 'it returns false'. Refute it at one input. -/
def fuseStaysWrong : ChangeSpec := { name := "fuseStays", fn := fun _ => fun
  | [d1, d2, d3] => { results := [.lit (.bool false)], args := [d1, d2, d3] }
  | _ => none }
def FuseStaysWrongFalsely : Prop := fuseStaysRow.holds Tryz.pinned (OpenSpec.ofChange fuseStaysWrong)

/- THE SECOND FORM. 'bulk': how many values and letters a reading holds, each counted each time it is reached (what is shared counts as often as it is met; a slice's spare places count too). A statement '..UptoSaid' is the law's where the arguments, and the package variables that the reading takes, are together of bulk at most 1048576: NARROWER than '..Said'. Prove '..Said' where nothing that the law and all that it calls make is longer than what came in: it says more and counts as full. Else prove '..UptoSaid'. A law counts once. -/
mutual
def uptoBulk {H : Type} : DataW H → Nat
  | .lit (.string bytes) => bytes.length + 1
  | .lit _ => 1
  | .nil => 1
  | .ptr d => uptoBulk d + 1
  | .slice elems spare => uptoBulkAll elems + uptoBulkAll spare + 1
  | .agg parts => uptoBulkAll parts + 1
  | .iface _ d => uptoBulk d + 1
  | .map entries => uptoBulkEntries entries + 1
  | .held _ => 1
def uptoBulkAll {H : Type} : List (DataW H) → Nat
  | [] => 0
  | d :: r => uptoBulk d + uptoBulkAll r
def uptoBulkEntries {H : Type} : List (Lit × DataW H) → Nat
  | [] => 0
  | x :: r => uptoBulkEntry x + uptoBulkEntries r
def uptoBulkEntry {H : Type} : Lit × DataW H → Nat
  | (.string bytes, d) => bytes.length + uptoBulk d + 1
  | (_, d) => uptoBulk d + 1
 end
def uptoSmall : (H : Type) → List (DataW H) → Bool := fun _ ds => decide (uptoBulkAll ds ≤ 1048576)
def OpenSpec.upto (s : _root_.Go.ChangeSpec) : _root_.Go.OpenSpec := { _root_.Go.OpenSpec.ofChange s with cond := some uptoSmall }

/-- 'whilomlaw12.PartialMarks', WHERE WHAT IT READS IS OF BULK AT MOST 1048576: true; the input reads as it did. -/
def partialMarksUptoRow : OpenClaim := { program := "ytpeoalmhccmdiaagreat", sum := "59e4949b50ef41699f3c0c779f59e235289a44dc7c8b7c572d60ca7234e83be0", func := "whilom/whilomlaw12.PartialMarks", spec := "partialMarks", unfollowed := true, recurses := true, apart := false, narrowed := true }
def PartialMarksUptoSaid : Prop := partialMarksUptoRow.holds Tryz.pinned (OpenSpec.upto partialMarksSpec)

/-- 'whilomlaw12.PartialVisits', WHERE WHAT IT READS IS OF BULK AT MOST 1048576: true; the input reads as it did. -/
def partialVisitsUptoRow : OpenClaim := { program := "ytpeoalmhccmdiaagreat", sum := "59e4949b50ef41699f3c0c779f59e235289a44dc7c8b7c572d60ca7234e83be0", func := "whilom/whilomlaw12.PartialVisits", spec := "partialVisits", unfollowed := true, recurses := true, apart := false, narrowed := true }
def PartialVisitsUptoSaid : Prop := partialVisitsUptoRow.holds Tryz.pinned (OpenSpec.upto partialVisitsSpec)

/-- 'whilomlaw12.PartialCounts', WHERE WHAT IT READS IS OF BULK AT MOST 1048576: true; the input reads as it did. -/
def partialCountsUptoRow : OpenClaim := { program := "ytpeoalmhccmdiaagreat", sum := "59e4949b50ef41699f3c0c779f59e235289a44dc7c8b7c572d60ca7234e83be0", func := "whilom/whilomlaw12.PartialCounts", spec := "partialCounts", unfollowed := true, recurses := true, apart := false, narrowed := true }
def PartialCountsUptoSaid : Prop := partialCountsUptoRow.holds Tryz.pinned (OpenSpec.upto partialCountsSpec)

/-- 'whilomlaw12.PartialOne', WHERE WHAT IT READS IS OF BULK AT MOST 1048576: true; the input reads as it did. -/
def partialOneUptoRow : OpenClaim := { program := "ytpeoalmhccmdiaagreat", sum := "59e4949b50ef41699f3c0c779f59e235289a44dc7c8b7c572d60ca7234e83be0", func := "whilom/whilomlaw12.PartialOne", spec := "partialOne", unfollowed := true, recurses := true, apart := false, narrowed := true }
def PartialOneUptoSaid : Prop := partialOneUptoRow.holds Tryz.pinned (OpenSpec.upto partialOneSpec)

/-- 'whilomlaw12.PartialActs', WHERE WHAT IT READS IS OF BULK AT MOST 1048576: true; the input reads as it did. -/
def partialActsUptoRow : OpenClaim := { program := "ytpeoalmhccmdiaagreat", sum := "59e4949b50ef41699f3c0c779f59e235289a44dc7c8b7c572d60ca7234e83be0", func := "whilom/whilomlaw12.PartialActs", spec := "partialActs", unfollowed := true, recurses := true, apart := false, narrowed := true }
def PartialActsUptoSaid : Prop := partialActsUptoRow.holds Tryz.pinned (OpenSpec.upto partialActsSpec)

/-- 'whilomlaw12.PartialOrder', WHERE WHAT IT READS IS OF BULK AT MOST 1048576: true; the input reads as it did. -/
def partialOrderUptoRow : OpenClaim := { program := "ytpeoalmhccmdiaagreat", sum := "59e4949b50ef41699f3c0c779f59e235289a44dc7c8b7c572d60ca7234e83be0", func := "whilom/whilomlaw12.PartialOrder", spec := "partialOrder", unfollowed := true, recurses := true, apart := false, narrowed := true }
def PartialOrderUptoSaid : Prop := partialOrderUptoRow.holds Tryz.pinned (OpenSpec.upto partialOrderSpec)

/-- 'whilomlaw13.FuseCounts', WHERE WHAT IT READS IS OF BULK AT MOST 1048576: true; the input reads as it did. -/
def fuseCountsUptoRow : OpenClaim := { program := "ytpeoalmhccmdiaagreat", sum := "59e4949b50ef41699f3c0c779f59e235289a44dc7c8b7c572d60ca7234e83be0", func := "whilom/whilomlaw13.FuseCounts", spec := "fuseCounts", unfollowed := true, recurses := true, apart := false, narrowed := true }
def FuseCountsUptoSaid : Prop := fuseCountsUptoRow.holds Tryz.pinned (OpenSpec.upto fuseCountsSpec)

/-- 'whilomlaw13.FuseHas', WHERE WHAT IT READS IS OF BULK AT MOST 1048576: true; the input reads as it did. -/
def fuseHasUptoRow : OpenClaim := { program := "ytpeoalmhccmdiaagreat", sum := "59e4949b50ef41699f3c0c779f59e235289a44dc7c8b7c572d60ca7234e83be0", func := "whilom/whilomlaw13.FuseHas", spec := "fuseHas", unfollowed := true, recurses := true, apart := false, narrowed := true }
def FuseHasUptoSaid : Prop := fuseHasUptoRow.holds Tryz.pinned (OpenSpec.upto fuseHasSpec)

/-- 'whilomlaw13.FuseLeaves', WHERE WHAT IT READS IS OF BULK AT MOST 1048576: true; the input reads as it did. -/
def fuseLeavesUptoRow : OpenClaim := { program := "ytpeoalmhccmdiaagreat", sum := "59e4949b50ef41699f3c0c779f59e235289a44dc7c8b7c572d60ca7234e83be0", func := "whilom/whilomlaw13.FuseLeaves", spec := "fuseLeaves", unfollowed := true, recurses := true, apart := false, narrowed := true }
def FuseLeavesUptoSaid : Prop := fuseLeavesUptoRow.holds Tryz.pinned (OpenSpec.upto fuseLeavesSpec)

/-- 'whilomlaw13.FuseParts', WHERE WHAT IT READS IS OF BULK AT MOST 1048576: true; the input reads as it did. -/
def fusePartsUptoRow : OpenClaim := { program := "ytpeoalmhccmdiaagreat", sum := "59e4949b50ef41699f3c0c779f59e235289a44dc7c8b7c572d60ca7234e83be0", func := "whilom/whilomlaw13.FuseParts", spec := "fuseParts", unfollowed := true, recurses := true, apart := false, narrowed := true }
def FusePartsUptoSaid : Prop := fusePartsUptoRow.holds Tryz.pinned (OpenSpec.upto fusePartsSpec)

/-- 'whilomlaw13.FuseStays', WHERE WHAT IT READS IS OF BULK AT MOST 1048576: true; the input reads as it did. -/
def fuseStaysUptoRow : OpenClaim := { program := "ytpeoalmhccmdiaagreat", sum := "59e4949b50ef41699f3c0c779f59e235289a44dc7c8b7c572d60ca7234e83be0", func := "whilom/whilomlaw13.FuseStays", spec := "fuseStays", unfollowed := true, recurses := true, apart := false, narrowed := true }
def FuseStaysUptoSaid : Prop := fuseStaysUptoRow.holds Tryz.pinned (OpenSpec.upto fuseStaysSpec)

end Rows
end Go.Proofs.YtpeoalmhccmdiaaGreat
