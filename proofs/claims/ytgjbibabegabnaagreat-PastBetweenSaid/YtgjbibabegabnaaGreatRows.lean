/-
  No cell of these rows narrows 'for every input' (looked for: loops, veiled, ifaces, maps, wideKeys, modest, calm, conditions, laid).
  DERIVED. THE GIVEN ROWS OF THIS SEAT. 5 by the template 'for every input the law returns true; each argument reads behind the call as it read before'; 0 by the template 'total and deterministic' (their statements: YtgjbibabegabnaaGreatTotals.lean).
  GIVEN WITH THE SEED: the statements are not yours to turn. If you find one false, say at which input.
  Laid BY PROGRAM, IN A SANDBOX (cutbox-rows.mjs): the forced cells as the released guide's own fill.sh prints them over the translation 52a31a9480293be4… (all of the seat's roots in one cut). By AI agents, Wed Nov 11 2026. No macro, syntax, notation, axiom, sorry.
-/
import Derived.Test.YtgjbibabegabnaaGreatChecked
import GoSem.Claim
import GoSem.ClaimJoined
import GoSem.ClaimMapViews
import Derived.JoinedTies
import Derived.KernelRfl
namespace Go.Proofs.YtgjbibabegabnaaGreat
/- THE CELL 'sum', in the pinned program and in every row, IS THE sha256 OF THE DUMP (.gsa) THAT YtgjbibabegabnaaGreatProg.lean LOADS. Nothing in Lean hashes anything: it is a label: what it is worth is what the hold of that sum in a sandbox is worth. -/
noncomputable def Tryz.pinned : Pinned := { name := "ytgjbibabegabnaagreat", sum := "52a31a9480293be4d235d7007eb484c0be535a4a696f1f14bba598a82a869d37", checked := Tryz.checked }
namespace Rows
def none {H : Type} : Left H := { results := [], args := [] }

/-- 'whilomlaw14.PastHeights': WHATEVER THE INPUT: true; the input reads as it did. -/
def pastHeightsSpec : ChangeSpec := { name := "pastHeights", fn := fun _ => fun
  | [d1, d2, d3] => { results := [.lit (.bool true)], args := [d1, d2, d3] }
  | _ => none }
def pastHeightsRow : OpenClaim := { program := "ytgjbibabegabnaagreat", sum := "52a31a9480293be4d235d7007eb484c0be535a4a696f1f14bba598a82a869d37", func := "whilom/whilomlaw14.PastHeights", spec := "pastHeights", unfollowed := true, recurses := true, apart := false }
def PastHeightsSaid : Prop := pastHeightsRow.holds Tryz.pinned (OpenSpec.ofChange pastHeightsSpec)

/-- ITS FALSE NEIGHBOUR: 'it returns false'. Refute it at one input. -/
def pastHeightsWrong : ChangeSpec := { name := "pastHeights", fn := fun _ => fun
  | [d1, d2, d3] => { results := [.lit (.bool false)], args := [d1, d2, d3] }
  | _ => none }
def PastHeightsWrongFalsely : Prop := pastHeightsRow.holds Tryz.pinned (OpenSpec.ofChange pastHeightsWrong)

/-- 'whilomlaw14.PastSteps': WHATEVER THE INPUT: true; the input reads as it did. -/
def pastStepsSpec : ChangeSpec := { name := "pastSteps", fn := fun _ => fun
  | [d] => { results := [.lit (.bool true)], args := [d] }
  | _ => none }
def pastStepsRow : OpenClaim := { program := "ytgjbibabegabnaagreat", sum := "52a31a9480293be4d235d7007eb484c0be535a4a696f1f14bba598a82a869d37", func := "whilom/whilomlaw14.PastSteps", spec := "pastSteps", unfollowed := true, recurses := true, apart := false }
def PastStepsSaid : Prop := pastStepsRow.holds Tryz.pinned (OpenSpec.ofChange pastStepsSpec)

/-- ITS FALSE NEIGHBOUR: 'it returns false'. Refute it at one input. -/
def pastStepsWrong : ChangeSpec := { name := "pastSteps", fn := fun _ => fun
  | [d] => { results := [.lit (.bool false)], args := [d] }
  | _ => none }
def PastStepsWrongFalsely : Prop := pastStepsRow.holds Tryz.pinned (OpenSpec.ofChange pastStepsWrong)

/-- 'whilomlaw14.PastActs': WHATEVER THE INPUT: true; the input reads as it did. -/
def pastActsSpec : ChangeSpec := { name := "pastActs", fn := fun _ => fun
  | [d1, d2, d3] => { results := [.lit (.bool true)], args := [d1, d2, d3] }
  | _ => none }
def pastActsRow : OpenClaim := { program := "ytgjbibabegabnaagreat", sum := "52a31a9480293be4d235d7007eb484c0be535a4a696f1f14bba598a82a869d37", func := "whilom/whilomlaw14.PastActs", spec := "pastActs", unfollowed := true, recurses := true, apart := false }
def PastActsSaid : Prop := pastActsRow.holds Tryz.pinned (OpenSpec.ofChange pastActsSpec)

/-- ITS FALSE NEIGHBOUR: 'it returns false'. Refute it at one input. -/
def pastActsWrong : ChangeSpec := { name := "pastActs", fn := fun _ => fun
  | [d1, d2, d3] => { results := [.lit (.bool false)], args := [d1, d2, d3] }
  | _ => none }
def PastActsWrongFalsely : Prop := pastActsRow.holds Tryz.pinned (OpenSpec.ofChange pastActsWrong)

/-- 'whilomlaw14.PastTimes': WHATEVER THE INPUT: true; the input reads as it did. -/
def pastTimesSpec : ChangeSpec := { name := "pastTimes", fn := fun _ => fun
  | [d] => { results := [.lit (.bool true)], args := [d] }
  | _ => none }
def pastTimesRow : OpenClaim := { program := "ytgjbibabegabnaagreat", sum := "52a31a9480293be4d235d7007eb484c0be535a4a696f1f14bba598a82a869d37", func := "whilom/whilomlaw14.PastTimes", spec := "pastTimes", unfollowed := true, recurses := true, apart := false }
def PastTimesSaid : Prop := pastTimesRow.holds Tryz.pinned (OpenSpec.ofChange pastTimesSpec)

/-- ITS FALSE NEIGHBOUR: 'it returns false'. Refute it at one input. -/
def pastTimesWrong : ChangeSpec := { name := "pastTimes", fn := fun _ => fun
  | [d] => { results := [.lit (.bool false)], args := [d] }
  | _ => none }
def PastTimesWrongFalsely : Prop := pastTimesRow.holds Tryz.pinned (OpenSpec.ofChange pastTimesWrong)

/-- 'whilomlaw14.PastBetween': WHATEVER THE INPUT: true; the input reads as it did. -/
def pastBetweenSpec : ChangeSpec := { name := "pastBetween", fn := fun _ => fun
  | [d] => { results := [.lit (.bool true)], args := [d] }
  | _ => none }
def pastBetweenRow : OpenClaim := { program := "ytgjbibabegabnaagreat", sum := "52a31a9480293be4d235d7007eb484c0be535a4a696f1f14bba598a82a869d37", func := "whilom/whilomlaw14.PastBetween", spec := "pastBetween", unfollowed := true, recurses := true, apart := false }
def PastBetweenSaid : Prop := pastBetweenRow.holds Tryz.pinned (OpenSpec.ofChange pastBetweenSpec)

/-- ITS FALSE NEIGHBOUR: 'it returns false'. Refute it at one input. -/
def pastBetweenWrong : ChangeSpec := { name := "pastBetween", fn := fun _ => fun
  | [d] => { results := [.lit (.bool false)], args := [d] }
  | _ => none }
def PastBetweenWrongFalsely : Prop := pastBetweenRow.holds Tryz.pinned (OpenSpec.ofChange pastBetweenWrong)

/- THE SECOND FORM. 'bulk': how many values and letters a reading holds, each counted each time it is reached (what is shared counts as often as it is met; a slice's spare places count too). A statement '..UptoSaid' is the law's where the arguments, and the package variables that the reading takes, are together of bulk at most 1048576: NARROWER than '..Said'. Prove '..Said' where nothing that the law and all that it calls make is longer than what came in: it says more and counts as full. Else prove '..UptoSaid'. A law counts once. -/
mutual
def uptoBulk {H : Type} : DataW H → Nat
  | .lit (.string bytes) => bytes.length + 1
  | .lit _ => 1
  | .nil => 1
  | .ptr d => uptoBulk d + 1
  | .slice elems spare => uptoBulkAll elems + uptoBulkAll spare + 1
  | .agg parts => uptoBulkAll parts + 1
  | .iface _ d => uptoBulk d + 1
  | .map entries => uptoBulkEntries entries + 1
  | .held _ => 1
def uptoBulkAll {H : Type} : List (DataW H) → Nat
  | [] => 0
  | d :: r => uptoBulk d + uptoBulkAll r
def uptoBulkEntries {H : Type} : List (Lit × DataW H) → Nat
  | [] => 0
  | x :: r => uptoBulkEntry x + uptoBulkEntries r
def uptoBulkEntry {H : Type} : Lit × DataW H → Nat
  | (.string bytes, d) => bytes.length + uptoBulk d + 1
  | (_, d) => uptoBulk d + 1
 end
def uptoSmall : (H : Type) → List (DataW H) → Bool := fun _ ds => decide (uptoBulkAll ds ≤ 1048576)
def OpenSpec.upto (s : _root_.Go.ChangeSpec) : _root_.Go.OpenSpec := { _root_.Go.OpenSpec.ofChange s with cond := some uptoSmall }

/-- 'whilomlaw14.PastHeights', WHERE WHAT IT READS IS OF BULK AT MOST 1048576: true; the input reads as it did. -/
def pastHeightsUptoRow : OpenClaim := { program := "ytgjbibabegabnaagreat", sum := "52a31a9480293be4d235d7007eb484c0be535a4a696f1f14bba598a82a869d37", func := "whilom/whilomlaw14.PastHeights", spec := "pastHeights", unfollowed := true, recurses := true, apart := false, narrowed := true }
def PastHeightsUptoSaid : Prop := pastHeightsUptoRow.holds Tryz.pinned (OpenSpec.upto pastHeightsSpec)

/-- 'whilomlaw14.PastSteps', WHERE WHAT IT READS IS OF BULK AT MOST 1048576: true; the input reads as it did. -/
def pastStepsUptoRow : OpenClaim := { program := "ytgjbibabegabnaagreat", sum := "52a31a9480293be4d235d7007eb484c0be535a4a696f1f14bba598a82a869d37", func := "whilom/whilomlaw14.PastSteps", spec := "pastSteps", unfollowed := true, recurses := true, apart := false, narrowed := true }
def PastStepsUptoSaid : Prop := pastStepsUptoRow.holds Tryz.pinned (OpenSpec.upto pastStepsSpec)

/-- 'whilomlaw14.PastActs', WHERE WHAT IT READS IS OF BULK AT MOST 1048576: true; the input reads as it did. -/
def pastActsUptoRow : OpenClaim := { program := "ytgjbibabegabnaagreat", sum := "52a31a9480293be4d235d7007eb484c0be535a4a696f1f14bba598a82a869d37", func := "whilom/whilomlaw14.PastActs", spec := "pastActs", unfollowed := true, recurses := true, apart := false, narrowed := true }
def PastActsUptoSaid : Prop := pastActsUptoRow.holds Tryz.pinned (OpenSpec.upto pastActsSpec)

/-- 'whilomlaw14.PastTimes', WHERE WHAT IT READS IS OF BULK AT MOST 1048576: true; the input reads as it did. -/
def pastTimesUptoRow : OpenClaim := { program := "ytgjbibabegabnaagreat", sum := "52a31a9480293be4d235d7007eb484c0be535a4a696f1f14bba598a82a869d37", func := "whilom/whilomlaw14.PastTimes", spec := "pastTimes", unfollowed := true, recurses := true, apart := false, narrowed := true }
def PastTimesUptoSaid : Prop := pastTimesUptoRow.holds Tryz.pinned (OpenSpec.upto pastTimesSpec)

/-- 'whilomlaw14.PastBetween', WHERE WHAT IT READS IS OF BULK AT MOST 1048576: true; the input reads as it did. -/
def pastBetweenUptoRow : OpenClaim := { program := "ytgjbibabegabnaagreat", sum := "52a31a9480293be4d235d7007eb484c0be535a4a696f1f14bba598a82a869d37", func := "whilom/whilomlaw14.PastBetween", spec := "pastBetween", unfollowed := true, recurses := true, apart := false, narrowed := true }
def PastBetweenUptoSaid : Prop := pastBetweenUptoRow.holds Tryz.pinned (OpenSpec.upto pastBetweenSpec)

end Rows
end Go.Proofs.YtgjbibabegabnaaGreat
