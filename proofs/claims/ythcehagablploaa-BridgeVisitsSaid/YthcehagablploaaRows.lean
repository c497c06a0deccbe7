/-
  No cell of these rows narrows 'for every input' (looked for: loops, veiled, ifaces, maps, wideKeys, modest, calm, conditions, laid).
  DERIVED. THE GIVEN ROWS OF THIS SEAT. 8 by the template 'for every input the law returns true; each argument reads behind the call as it read before'; 0 by the template 'total and deterministic' (their statements: YthcehagablploaaTotals.lean).
  GIVEN WITH THE SEED: the statements are not yours to turn. If you find one false, say at which input.
  Laid BY PROGRAM, IN A SANDBOX (cutbox-rows.mjs): the forced cells as the released guide's own fill.sh prints them over the translation d9636454dff5f458… (all of the seat's roots in one cut). By AI agents, Wed Nov 11 2026. No macro, syntax, notation, axiom, sorry.
-/
import Derived.Test.YthcehagablploaaChecked
import GoSem.Claim
import GoSem.ClaimJoined
import GoSem.ClaimMapViews
import Derived.JoinedTies
import Derived.KernelRfl
namespace Go.Proofs.Ythcehagablploaa
/- THE CELL 'sum', in the pinned program and in every row, IS THE sha256 OF THE DUMP (.gsa) THAT YthcehagablploaaProg.lean LOADS. Nothing in Lean hashes anything: it is a label: what it is worth is what the hold of that sum in a sandbox is worth. -/
noncomputable def Try.pinned : Pinned := { name := "ythcehagablploaa", sum := "d9636454dff5f4588865f94572098ac200688f5126dead99bf87350abdf39fc9", checked := Try.checked }
namespace Rows
def none {H : Type} : Left H := { results := [], args := [] }

/-- 'whilomlaw10.BridgeHeights': WHATEVER THE INPUT: true; the input reads as it did. -/
def bridgeHeightsSpec : ChangeSpec := { name := "bridgeHeights", fn := fun _ => fun
  | [d1, d2, d3] => { results := [.lit (.bool true)], args := [d1, d2, d3] }
  | _ => none }
def bridgeHeightsRow : OpenClaim := { program := "ythcehagablploaa", sum := "d9636454dff5f4588865f94572098ac200688f5126dead99bf87350abdf39fc9", func := "whilom/whilomlaw10.BridgeHeights", spec := "bridgeHeights", unfollowed := true, recurses := true, apart := false }
def BridgeHeightsSaid : Prop := bridgeHeightsRow.holds Try.pinned (OpenSpec.ofChange bridgeHeightsSpec)

/-- ITS FALSE NEIGHBOUR: 'it returns false'. Refute it at one input. -/
def bridgeHeightsWrong : ChangeSpec := { name := "bridgeHeights", fn := fun _ => fun
  | [d1, d2, d3] => { results := [.lit (.bool false)], args := [d1, d2, d3] }
  | _ => none }
def BridgeHeightsWrongFalsely : Prop := bridgeHeightsRow.holds Try.pinned (OpenSpec.ofChange bridgeHeightsWrong)

/-- 'whilomlaw10.BridgeFinds': WHATEVER THE INPUT: true; the input reads as it did. -/
def bridgeFindsSpec : ChangeSpec := { name := "bridgeFinds", fn := fun _ => fun
  | [d1, d2, d3] => { results := [.lit (.bool true)], args := [d1, d2, d3] }
  | _ => none }
def bridgeFindsRow : OpenClaim := { program := "ythcehagablploaa", sum := "d9636454dff5f4588865f94572098ac200688f5126dead99bf87350abdf39fc9", func := "whilom/whilomlaw10.BridgeFinds", spec := "bridgeFinds", unfollowed := true, recurses := true, apart := false }
def BridgeFindsSaid : Prop := bridgeFindsRow.holds Try.pinned (OpenSpec.ofChange bridgeFindsSpec)

/-- ITS FALSE NEIGHBOUR: 'it returns false'. Refute it at one input. -/
def bridgeFindsWrong : ChangeSpec := { name := "bridgeFinds", fn := fun _ => fun
  | [d1, d2, d3] => { results := [.lit (.bool false)], args := [d1, d2, d3] }
  | _ => none }
def BridgeFindsWrongFalsely : Prop := bridgeFindsRow.holds Try.pinned (OpenSpec.ofChange bridgeFindsWrong)

/-- 'whilomlaw10.BridgeBetween': WHATEVER THE INPUT: true; the input reads as it did. -/
def bridgeBetweenSpec : ChangeSpec := { name := "bridgeBetween", fn := fun _ => fun
  | [d1, d2, d3] => { results := [.lit (.bool true)], args := [d1, d2, d3] }
  | _ => none }
def bridgeBetweenRow : OpenClaim := { program := "ythcehagablploaa", sum := "d9636454dff5f4588865f94572098ac200688f5126dead99bf87350abdf39fc9", func := "whilom/whilomlaw10.BridgeBetween", spec := "bridgeBetween", unfollowed := true, recurses := true, apart := false }
def BridgeBetweenSaid : Prop := bridgeBetweenRow.holds Try.pinned (OpenSpec.ofChange bridgeBetweenSpec)

/-- ITS FALSE NEIGHBOUR: 'it returns false'. Refute it at one input. -/
def bridgeBetweenWrong : ChangeSpec := { name := "bridgeBetween", fn := fun _ => fun
  | [d1, d2, d3] => { results := [.lit (.bool false)], args := [d1, d2, d3] }
  | _ => none }
def BridgeBetweenWrongFalsely : Prop := bridgeBetweenRow.holds Try.pinned (OpenSpec.ofChange bridgeBetweenWrong)

/-- 'whilomlaw10.BridgeItems': WHATEVER THE INPUT: true; the input reads as it did. -/
def bridgeItemsSpec : ChangeSpec := { name := "bridgeItems", fn := fun _ => fun
  | [d1, d2] => { results := [.lit (.bool true)], args := [d1, d2] }
  | _ => none }
def bridgeItemsRow : OpenClaim := { program := "ythcehagablploaa", sum := "d9636454dff5f4588865f94572098ac200688f5126dead99bf87350abdf39fc9", func := "whilom/whilomlaw10.BridgeItems", spec := "bridgeItems", unfollowed := true, recurses := true, apart := false }
def BridgeItemsSaid : Prop := bridgeItemsRow.holds Try.pinned (OpenSpec.ofChange bridgeItemsSpec)

/-- ITS FALSE NEIGHBOUR: 'it returns false'. Refute it at one input. -/
def bridgeItemsWrong : ChangeSpec := { name := "bridgeItems", fn := fun _ => fun
  | [d1, d2] => { results := [.lit (.bool false)], args := [d1, d2] }
  | _ => none }
def BridgeItemsWrongFalsely : Prop := bridgeItemsRow.holds Try.pinned (OpenSpec.ofChange bridgeItemsWrong)

/-- 'whilomlaw10.BridgeVisits': WHATEVER THE INPUT: true; the input reads as it did. -/
def bridgeVisitsSpec : ChangeSpec := { name := "bridgeVisits", fn := fun _ => fun
  | [d1, d2, d3] => { results := [.lit (.bool true)], args := [d1, d2, d3] }
  | _ => none }
def bridgeVisitsRow : OpenClaim := { program := "ythcehagablploaa", sum := "d9636454dff5f4588865f94572098ac200688f5126dead99bf87350abdf39fc9", func := "whilom/whilomlaw10.BridgeVisits", spec := "bridgeVisits", unfollowed := true, recurses := true, apart := false }
def BridgeVisitsSaid : Prop := bridgeVisitsRow.holds Try.pinned (OpenSpec.ofChange bridgeVisitsSpec)

/-- ITS FALSE NEIGHBOUR: 'it returns false'. Refute it at one input. -/
def bridgeVisitsWrong : ChangeSpec := { name := "bridgeVisits", fn := fun _ => fun
  | [d1, d2, d3] => { results := [.lit (.bool false)], args := [d1, d2, d3] }
  | _ => none }
def BridgeVisitsWrongFalsely : Prop := bridgeVisitsRow.holds Try.pinned (OpenSpec.ofChange bridgeVisitsWrong)

/-- 'whilomlaw11.LegalLows': WHATEVER THE INPUT: true; the input reads as it did. -/
def legalLowsSpec : ChangeSpec := { name := "legalLows", fn := fun _ => fun
  | [d1, d2, d3] => { results := [.lit (.bool true)], args := [d1, d2, d3] }
  | _ => none }
def legalLowsRow : OpenClaim := { program := "ythcehagablploaa", sum := "d9636454dff5f4588865f94572098ac200688f5126dead99bf87350abdf39fc9", func := "whilom/whilomlaw11.LegalLows", spec := "legalLows", unfollowed := true, recurses := true, apart := false }
def LegalLowsSaid : Prop := legalLowsRow.holds Try.pinned (OpenSpec.ofChange legalLowsSpec)

/-- ITS FALSE NEIGHBOUR: 'it returns false'. Refute it at one input. -/
def legalLowsWrong : ChangeSpec := { name := "legalLows", fn := fun _ => fun
  | [d1, d2, d3] => { results := [.lit (.bool false)], args := [d1, d2, d3] }
  | _ => none }
def LegalLowsWrongFalsely : Prop := legalLowsRow.holds Try.pinned (OpenSpec.ofChange legalLowsWrong)

/-- 'whilomlaw11.LegalEdits': WHATEVER THE INPUT: true; the input reads as it did. -/
def legalEditsSpec : ChangeSpec := { name := "legalEdits", fn := fun _ => fun
  | [d1, d2] => { results := [.lit (.bool true)], args := [d1, d2] }
  | _ => none }
def legalEditsRow : OpenClaim := { program := "ythcehagablploaa", sum := "d9636454dff5f4588865f94572098ac200688f5126dead99bf87350abdf39fc9", func := "whilom/whilomlaw11.LegalEdits", spec := "legalEdits", unfollowed := true, recurses := true, apart := false }
def LegalEditsSaid : Prop := legalEditsRow.holds Try.pinned (OpenSpec.ofChange legalEditsSpec)

/-- ITS FALSE NEIGHBOUR: 'it returns false'. Refute it at one input. -/
def legalEditsWrong : ChangeSpec := { name := "legalEdits", fn := fun _ => fun
  | [d1, d2] => { results := [.lit (.bool false)], args := [d1, d2] }
  | _ => none }
def LegalEditsWrongFalsely : Prop := legalEditsRow.holds Try.pinned (OpenSpec.ofChange legalEditsWrong)

/-- 'whilomlaw11.LegalLater': WHATEVER THE INPUT: true; the input reads as it did. -/
def legalLaterSpec : ChangeSpec := { name := "legalLater", fn := fun _ => fun
  | [d1, d2, d3] => { results := [.lit (.bool true)], args := [d1, d2, d3] }
  | _ => none }
def legalLaterRow : OpenClaim := { program := "ythcehagablploaa", sum := "d9636454dff5f4588865f94572098ac200688f5126dead99bf87350abdf39fc9", func := "whilom/whilomlaw11.LegalLater", spec := "legalLater", unfollowed := true, recurses := true, apart := false }
def LegalLaterSaid : Prop := legalLaterRow.holds Try.pinned (OpenSpec.ofChange legalLaterSpec)

/-- ITS FALSE NEIGHBOUR: 'it returns false'. Refute it at one input. -/
def legalLaterWrong : ChangeSpec := { name := "legalLater", fn := fun _ => fun
  | [d1, d2, d3] => { results := [.lit (.bool false)], args := [d1, d2, d3] }
  | _ => none }
def LegalLaterWrongFalsely : Prop := legalLaterRow.holds Try.pinned (OpenSpec.ofChange legalLaterWrong)

/- THE SECOND FORM. 'bulk': how many values and letters a reading holds, each counted each time it is reached (what is shared counts as often as it is met; a slice's spare places count too). A statement '..UptoSaid' is the law's where the arguments, and the package variables that the reading takes, are together of bulk at most 1048576: NARROWER than '..Said'. Prove '..Said' where nothing that the law and all that it calls make is longer than what came in: it says more and counts as full. Else prove '..UptoSaid'. A law counts once. -/
mutual
def uptoBulk {H : Type} : DataW H → Nat
  | .lit (.string bytes) => bytes.length + 1
  | .lit _ => 1
  | .nil => 1
  | .ptr d => uptoBulk d + 1
  | .slice elems spare => uptoBulkAll elems + uptoBulkAll spare + 1
  | .agg parts => uptoBulkAll parts + 1
  | .iface _ d => uptoBulk d + 1
  | .map entries => uptoBulkEntries entries + 1
  | .held _ => 1
def uptoBulkAll {H : Type} : List (DataW H) → Nat
  | [] => 0
  | d :: r => uptoBulk d + uptoBulkAll r
def uptoBulkEntries {H : Type} : List (Lit × DataW H) → Nat
  | [] => 0
  | x :: r => uptoBulkEntry x + uptoBulkEntries r
def uptoBulkEntry {H : Type} : Lit × DataW H → Nat
  | (.string bytes, d) => bytes.length + uptoBulk d + 1
  | (_, d) => uptoBulk d + 1
 end
def uptoSmall : (H : Type) → List (DataW H) → Bool := fun _ ds => decide (uptoBulkAll ds ≤ 1048576)
def OpenSpec.upto (s : _root_.Go.ChangeSpec) : _root_.Go.OpenSpec := { _root_.Go.OpenSpec.ofChange s with cond := some uptoSmall }

/-- 'whilomlaw10.BridgeHeights', WHERE WHAT IT READS IS OF BULK AT MOST 1048576: true; the input reads as it did. -/
def bridgeHeightsUptoRow : OpenClaim := { program := "ythcehagablploaa", sum := "d9636454dff5f4588865f94572098ac200688f5126dead99bf87350abdf39fc9", func := "whilom/whilomlaw10.BridgeHeights", spec := "bridgeHeights", unfollowed := true, recurses := true, apart := false, narrowed := true }
def BridgeHeightsUptoSaid : Prop := bridgeHeightsUptoRow.holds Try.pinned (OpenSpec.upto bridgeHeightsSpec)

/-- 'whilomlaw10.BridgeFinds', WHERE WHAT IT READS IS OF BULK AT MOST 1048576: true; the input reads as it did. -/
def bridgeFindsUptoRow : OpenClaim := { program := "ythcehagablploaa", sum := "d9636454dff5f4588865f94572098ac200688f5126dead99bf87350abdf39fc9", func := "whilom/whilomlaw10.BridgeFinds", spec := "bridgeFinds", unfollowed := true, recurses := true, apart := false, narrowed := true }
def BridgeFindsUptoSaid : Prop := bridgeFindsUptoRow.holds Try.pinned (OpenSpec.upto bridgeFindsSpec)

/-- 'whilomlaw10.BridgeBetween', WHERE WHAT IT READS IS OF BULK AT MOST 1048576: true; the input reads as it did. -/
def bridgeBetweenUptoRow : OpenClaim := { program := "ythcehagablploaa", sum := "d9636454dff5f4588865f94572098ac200688f5126dead99bf87350abdf39fc9", func := "whilom/whilomlaw10.BridgeBetween", spec := "bridgeBetween", unfollowed := true, recurses := true, apart := false, narrowed := true }
def BridgeBetweenUptoSaid : Prop := bridgeBetweenUptoRow.holds Try.pinned (OpenSpec.upto bridgeBetweenSpec)

/-- 'whilomlaw10.BridgeItems', WHERE WHAT IT READS IS OF BULK AT MOST 1048576: true; the input reads as it did. -/
def bridgeItemsUptoRow : OpenClaim := { program := "ythcehagablploaa", sum := "d9636454dff5f4588865f94572098ac200688f5126dead99bf87350abdf39fc9", func := "whilom/whilomlaw10.BridgeItems", spec := "bridgeItems", unfollowed := true, recurses := true, apart := false, narrowed := true }
def BridgeItemsUptoSaid : Prop := bridgeItemsUptoRow.holds Try.pinned (OpenSpec.upto bridgeItemsSpec)

/-- 'whilomlaw10.BridgeVisits', WHERE WHAT IT READS IS OF BULK AT MOST 1048576: true; the input reads as it did. -/
def bridgeVisitsUptoRow : OpenClaim := { program := "ythcehagablploaa", sum := "d9636454dff5f4588865f94572098ac200688f5126dead99bf87350abdf39fc9", func := "whilom/whilomlaw10.BridgeVisits", spec := "bridgeVisits", unfollowed := true, recurses := true, apart := false, narrowed := true }
def BridgeVisitsUptoSaid : Prop := bridgeVisitsUptoRow.holds Try.pinned (OpenSpec.upto bridgeVisitsSpec)

/-- 'whilomlaw11.LegalLows', WHERE WHAT IT READS IS OF BULK AT MOST 1048576: true; the input reads as it did. -/
def legalLowsUptoRow : OpenClaim := { program := "ythcehagablploaa", sum := "d9636454dff5f4588865f94572098ac200688f5126dead99bf87350abdf39fc9", func := "whilom/whilomlaw11.LegalLows", spec := "legalLows", unfollowed := true, recurses := true, apart := false, narrowed := true }
def LegalLowsUptoSaid : Prop := legalLowsUptoRow.holds Try.pinned (OpenSpec.upto legalLowsSpec)

/-- 'whilomlaw11.LegalEdits', WHERE WHAT IT READS IS OF BULK AT MOST 1048576: true; the input reads as it did. -/
def legalEditsUptoRow : OpenClaim := { program := "ythcehagablploaa", sum := "d9636454dff5f4588865f94572098ac200688f5126dead99bf87350abdf39fc9", func := "whilom/whilomlaw11.LegalEdits", spec := "legalEdits", unfollowed := true, recurses := true, apart := false, narrowed := true }
def LegalEditsUptoSaid : Prop := legalEditsUptoRow.holds Try.pinned (OpenSpec.upto legalEditsSpec)

/-- 'whilomlaw11.LegalLater', WHERE WHAT IT READS IS OF BULK AT MOST 1048576: true; the input reads as it did. -/
def legalLaterUptoRow : OpenClaim := { program := "ythcehagablploaa", sum := "d9636454dff5f4588865f94572098ac200688f5126dead99bf87350abdf39fc9", func := "whilom/whilomlaw11.LegalLater", spec := "legalLater", unfollowed := true, recurses := true, apart := false, narrowed := true }
def LegalLaterUptoSaid : Prop := legalLaterUptoRow.holds Try.pinned (OpenSpec.upto legalLaterSpec)

end Rows
end Go.Proofs.Ythcehagablploaa
