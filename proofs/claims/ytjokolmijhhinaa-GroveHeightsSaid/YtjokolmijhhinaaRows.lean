/-
  No cell of these rows narrows 'for every input' (looked for: loops, veiled, ifaces, maps, wideKeys, modest, calm, conditions, laid).
  DERIVED. THE GIVEN ROWS OF THIS SEAT. 8 by the template 'for every input the law returns true; each argument reads behind the call as it read before'; 0 by the template 'total and deterministic' (their statements: YtjokolmijhhinaaTotals.lean).
  GIVEN WITH THE SEED: the statements are not yours to turn. If you find one false, say at which input.
  Laid BY PROGRAM, IN A SANDBOX (cutbox-rows.mjs): the forced cells as the released guide's own fill.sh prints them over the translation 2cbd44695455a665… (all of the seat's roots in one cut). By AI agents, Wed Nov 11 2026. No macro, syntax, notation, axiom, sorry.
-/
import Derived.Test.YtjokolmijhhinaaChecked
import GoSem.Claim
import GoSem.ClaimJoined
import GoSem.ClaimMapViews
import Derived.JoinedTies
import Derived.KernelRfl
namespace Go.Proofs.Ytjokolmijhhinaa
/- THE CELL 'sum', in the pinned program and in every row, IS THE sha256 OF THE DUMP (.gsa) THAT YtjokolmijhhinaaProg.lean LOADS. Nothing in Lean hashes anything: it is a label: what it is worth is what the hold of that sum in a sandbox is worth. -/
noncomputable def Try.pinned : Pinned := { name := "ytjokolmijhhinaa", sum := "2cbd44695455a665bfbfc77aaf89587d7413b2587e1b21d3bbce416ac8129995", checked := Try.checked }
namespace Rows
def none {H : Type} : Left H := { results := [], args := [] }

/-- 'whilomlaw07.GroveSums': WHATEVER THE INPUT: true; the input reads as it did. -/
def groveSumsSpec : ChangeSpec := { name := "groveSums", fn := fun _ => fun
  | [d1, d2, d3] => { results := [.lit (.bool true)], args := [d1, d2, d3] }
  | _ => none }
def groveSumsRow : OpenClaim := { program := "ytjokolmijhhinaa", sum := "2cbd44695455a665bfbfc77aaf89587d7413b2587e1b21d3bbce416ac8129995", func := "whilom/whilomlaw07.GroveSums", spec := "groveSums", unfollowed := true, recurses := true, apart := false }
def GroveSumsSaid : Prop := groveSumsRow.holds Try.pinned (OpenSpec.ofChange groveSumsSpec)

/-- ITS FALSE NEIGHBOUR: 'it returns false'. Refute it at one input. -/
def groveSumsWrong : ChangeSpec := { name := "groveSums", fn := fun _ => fun
  | [d1, d2, d3] => { results := [.lit (.bool false)], args := [d1, d2, d3] }
  | _ => none }
def GroveSumsWrongFalsely : Prop := groveSumsRow.holds Try.pinned (OpenSpec.ofChange groveSumsWrong)

/-- 'whilomlaw07.GroveHeights': WHATEVER THE INPUT: true; the input reads as it did. -/
def groveHeightsSpec : ChangeSpec := { name := "groveHeights", fn := fun _ => fun
  | [d1, d2] => { results := [.lit (.bool true)], args := [d1, d2] }
  | _ => none }
def groveHeightsRow : OpenClaim := { program := "ytjokolmijhhinaa", sum := "2cbd44695455a665bfbfc77aaf89587d7413b2587e1b21d3bbce416ac8129995", func := "whilom/whilomlaw07.GroveHeights", spec := "groveHeights", unfollowed := true, recurses := true, apart := false }
def GroveHeightsSaid : Prop := groveHeightsRow.holds Try.pinned (OpenSpec.ofChange groveHeightsSpec)

/-- ITS FALSE NEIGHBOUR: 'it returns false'. Refute it at one input. -/
def groveHeightsWrong : ChangeSpec := { name := "groveHeights", fn := fun _ => fun
  | [d1, d2] => { results := [.lit (.bool false)], args := [d1, d2] }
  | _ => none }
def GroveHeightsWrongFalsely : Prop := groveHeightsRow.holds Try.pinned (OpenSpec.ofChange groveHeightsWrong)

/-- 'whilomlaw07.GroveSearches': WHATEVER THE INPUT: true; the input reads as it did. -/
def groveSearchesSpec : ChangeSpec := { name := "groveSearches", fn := fun _ => fun
  | [d1, d2, d3] => { results := [.lit (.bool true)], args := [d1, d2, d3] }
  | _ => none }
def groveSearchesRow : OpenClaim := { program := "ytjokolmijhhinaa", sum := "2cbd44695455a665bfbfc77aaf89587d7413b2587e1b21d3bbce416ac8129995", func := "whilom/whilomlaw07.GroveSearches", spec := "groveSearches", unfollowed := true, recurses := true, apart := false }
def GroveSearchesSaid : Prop := groveSearchesRow.holds Try.pinned (OpenSpec.ofChange groveSearchesSpec)

/-- ITS FALSE NEIGHBOUR: 'it returns false'. Refute it at one input. -/
def groveSearchesWrong : ChangeSpec := { name := "groveSearches", fn := fun _ => fun
  | [d1, d2, d3] => { results := [.lit (.bool false)], args := [d1, d2, d3] }
  | _ => none }
def GroveSearchesWrongFalsely : Prop := groveSearchesRow.holds Try.pinned (OpenSpec.ofChange groveSearchesWrong)

/-- 'whilomlaw07.GroveActs': WHATEVER THE INPUT: true; the input reads as it did. -/
def groveActsSpec : ChangeSpec := { name := "groveActs", fn := fun _ => fun
  | [d1, d2] => { results := [.lit (.bool true)], args := [d1, d2] }
  | _ => none }
def groveActsRow : OpenClaim := { program := "ytjokolmijhhinaa", sum := "2cbd44695455a665bfbfc77aaf89587d7413b2587e1b21d3bbce416ac8129995", func := "whilom/whilomlaw07.GroveActs", spec := "groveActs", unfollowed := true, recurses := true, apart := false }
def GroveActsSaid : Prop := groveActsRow.holds Try.pinned (OpenSpec.ofChange groveActsSpec)

/-- ITS FALSE NEIGHBOUR: 'it returns false'. Refute it at one input. -/
def groveActsWrong : ChangeSpec := { name := "groveActs", fn := fun _ => fun
  | [d1, d2] => { results := [.lit (.bool false)], args := [d1, d2] }
  | _ => none }
def GroveActsWrongFalsely : Prop := groveActsRow.holds Try.pinned (OpenSpec.ofChange groveActsWrong)

/-- 'whilomlaw07.GroveOrder': WHATEVER THE INPUT: true; the input reads as it did. -/
def groveOrderSpec : ChangeSpec := { name := "groveOrder", fn := fun _ => fun
  | [d] => { results := [.lit (.bool true)], args := [d] }
  | _ => none }
def groveOrderRow : OpenClaim := { program := "ytjokolmijhhinaa", sum := "2cbd44695455a665bfbfc77aaf89587d7413b2587e1b21d3bbce416ac8129995", func := "whilom/whilomlaw07.GroveOrder", spec := "groveOrder", unfollowed := true, recurses := true, apart := false }
def GroveOrderSaid : Prop := groveOrderRow.holds Try.pinned (OpenSpec.ofChange groveOrderSpec)

/-- ITS FALSE NEIGHBOUR: 'it returns false'. Refute it at one input. -/
def groveOrderWrong : ChangeSpec := { name := "groveOrder", fn := fun _ => fun
  | [d] => { results := [.lit (.bool false)], args := [d] }
  | _ => none }
def GroveOrderWrongFalsely : Prop := groveOrderRow.holds Try.pinned (OpenSpec.ofChange groveOrderWrong)

/-- 'whilomlaw07.GroveParts': WHATEVER THE INPUT: true; the input reads as it did. -/
def grovePartsSpec : ChangeSpec := { name := "groveParts", fn := fun _ => fun
  | [d1, d2, d3] => { results := [.lit (.bool true)], args := [d1, d2, d3] }
  | _ => none }
def grovePartsRow : OpenClaim := { program := "ytjokolmijhhinaa", sum := "2cbd44695455a665bfbfc77aaf89587d7413b2587e1b21d3bbce416ac8129995", func := "whilom/whilomlaw07.GroveParts", spec := "groveParts", unfollowed := true, recurses := true, apart := false }
def GrovePartsSaid : Prop := grovePartsRow.holds Try.pinned (OpenSpec.ofChange grovePartsSpec)

/-- ITS FALSE NEIGHBOUR: 'it returns false'. Refute it at one input. -/
def grovePartsWrong : ChangeSpec := { name := "groveParts", fn := fun _ => fun
  | [d1, d2, d3] => { results := [.lit (.bool false)], args := [d1, d2, d3] }
  | _ => none }
def GrovePartsWrongFalsely : Prop := grovePartsRow.holds Try.pinned (OpenSpec.ofChange grovePartsWrong)

/-- 'whilomlaw09.ShelfTimes': WHATEVER THE INPUT: true; the input reads as it did. -/
def shelfTimesSpec : ChangeSpec := { name := "shelfTimes", fn := fun _ => fun
  | [d1, d2, d3] => { results := [.lit (.bool true)], args := [d1, d2, d3] }
  | _ => none }
def shelfTimesRow : OpenClaim := { program := "ytjokolmijhhinaa", sum := "2cbd44695455a665bfbfc77aaf89587d7413b2587e1b21d3bbce416ac8129995", func := "whilom/whilomlaw09.ShelfTimes", spec := "shelfTimes", unfollowed := true, recurses := true, apart := false }
def ShelfTimesSaid : Prop := shelfTimesRow.holds Try.pinned (OpenSpec.ofChange shelfTimesSpec)

/-- ITS FALSE NEIGHBOUR: 'it returns false'. Refute it at one input. -/
def shelfTimesWrong : ChangeSpec := { name := "shelfTimes", fn := fun _ => fun
  | [d1, d2, d3] => { results := [.lit (.bool false)], args := [d1, d2, d3] }
  | _ => none }
def ShelfTimesWrongFalsely : Prop := shelfTimesRow.holds Try.pinned (OpenSpec.ofChange shelfTimesWrong)

/-- 'whilomlaw09.ShelfActs': WHATEVER THE INPUT: true; the input reads as it did. -/
def shelfActsSpec : ChangeSpec := { name := "shelfActs", fn := fun _ => fun
  | [d1, d2] => { results := [.lit (.bool true)], args := [d1, d2] }
  | _ => none }
def shelfActsRow : OpenClaim := { program := "ytjokolmijhhinaa", sum := "2cbd44695455a665bfbfc77aaf89587d7413b2587e1b21d3bbce416ac8129995", func := "whilom/whilomlaw09.ShelfActs", spec := "shelfActs", unfollowed := true, recurses := true, apart := false }
def ShelfActsSaid : Prop := shelfActsRow.holds Try.pinned (OpenSpec.ofChange shelfActsSpec)

/-- ITS FALSE NEIGHBOUR: 'it returns false'. Refute it at one input. -/
def shelfActsWrong : ChangeSpec := { name := "shelfActs", fn := fun _ => fun
  | [d1, d2] => { results := [.lit (.bool false)], args := [d1, d2] }
  | _ => none }
def ShelfActsWrongFalsely : Prop := shelfActsRow.holds Try.pinned (OpenSpec.ofChange shelfActsWrong)

/- THE SECOND FORM. 'bulk': how many values and letters a reading holds, each counted each time it is reached (what is shared counts as often as it is met; a slice's spare places count too). A statement '..UptoSaid' is the law's where the arguments, and the package variables that the reading takes, are together of bulk at most 1048576: NARROWER than '..Said'. Prove '..Said' where nothing that the law and all that it calls make is longer than what came in: it says more and counts as full. Else prove '..UptoSaid'. A law counts once. -/
mutual
def uptoBulk {H : Type} : DataW H → Nat
  | .lit (.string bytes) => bytes.length + 1
  | .lit _ => 1
  | .nil => 1
  | .ptr d => uptoBulk d + 1
  | .slice elems spare => uptoBulkAll elems + uptoBulkAll spare + 1
  | .agg parts => uptoBulkAll parts + 1
  | .iface _ d => uptoBulk d + 1
  | .map entries => uptoBulkEntries entries + 1
  | .held _ => 1
def uptoBulkAll {H : Type} : List (DataW H) → Nat
  | [] => 0
  | d :: r => uptoBulk d + uptoBulkAll r
def uptoBulkEntries {H : Type} : List (Lit × DataW H) → Nat
  | [] => 0
  | x :: r => uptoBulkEntry x + uptoBulkEntries r
def uptoBulkEntry {H : Type} : Lit × DataW H → Nat
  | (.string bytes, d) => bytes.length + uptoBulk d + 1
  | (_, d) => uptoBulk d + 1
 end
def uptoSmall : (H : Type) → List (DataW H) → Bool := fun _ ds => decide (uptoBulkAll ds ≤ 1048576)
def OpenSpec.upto (s : _root_.Go.ChangeSpec) : _root_.Go.OpenSpec := { _root_.Go.OpenSpec.ofChange s with cond := some uptoSmall }

/-- 'whilomlaw07.GroveSums', WHERE WHAT IT READS IS OF BULK AT MOST 1048576: true; the input reads as it did. -/
def groveSumsUptoRow : OpenClaim := { program := "ytjokolmijhhinaa", sum := "2cbd44695455a665bfbfc77aaf89587d7413b2587e1b21d3bbce416ac8129995", func := "whilom/whilomlaw07.GroveSums", spec := "groveSums", unfollowed := true, recurses := true, apart := false, narrowed := true }
def GroveSumsUptoSaid : Prop := groveSumsUptoRow.holds Try.pinned (OpenSpec.upto groveSumsSpec)

/-- 'whilomlaw07.GroveHeights', WHERE WHAT IT READS IS OF BULK AT MOST 1048576: true; the input reads as it did. -/
def groveHeightsUptoRow : OpenClaim := { program := "ytjokolmijhhinaa", sum := "2cbd44695455a665bfbfc77aaf89587d7413b2587e1b21d3bbce416ac8129995", func := "whilom/whilomlaw07.GroveHeights", spec := "groveHeights", unfollowed := true, recurses := true, apart := false, narrowed := true }
def GroveHeightsUptoSaid : Prop := groveHeightsUptoRow.holds Try.pinned (OpenSpec.upto groveHeightsSpec)

/-- 'whilomlaw07.GroveSearches', WHERE WHAT IT READS IS OF BULK AT MOST 1048576: true; the input reads as it did. -/
def groveSearchesUptoRow : OpenClaim := { program := "ytjokolmijhhinaa", sum := "2cbd44695455a665bfbfc77aaf89587d7413b2587e1b21d3bbce416ac8129995", func := "whilom/whilomlaw07.GroveSearches", spec := "groveSearches", unfollowed := true, recurses := true, apart := false, narrowed := true }
def GroveSearchesUptoSaid : Prop := groveSearchesUptoRow.holds Try.pinned (OpenSpec.upto groveSearchesSpec)

/-- 'whilomlaw07.GroveActs', WHERE WHAT IT READS IS OF BULK AT MOST 1048576: true; the input reads as it did. -/
def groveActsUptoRow : OpenClaim := { program := "ytjokolmijhhinaa", sum := "2cbd44695455a665bfbfc77aaf89587d7413b2587e1b21d3bbce416ac8129995", func := "whilom/whilomlaw07.GroveActs", spec := "groveActs", unfollowed := true, recurses := true, apart := false, narrowed := true }
def GroveActsUptoSaid : Prop := groveActsUptoRow.holds Try.pinned (OpenSpec.upto groveActsSpec)

/-- 'whilomlaw07.GroveOrder', WHERE WHAT IT READS IS OF BULK AT MOST 1048576: true; the input reads as it did. -/
def groveOrderUptoRow : OpenClaim := { program := "ytjokolmijhhinaa", sum := "2cbd44695455a665bfbfc77aaf89587d7413b2587e1b21d3bbce416ac8129995", func := "whilom/whilomlaw07.GroveOrder", spec := "groveOrder", unfollowed := true, recurses := true, apart := false, narrowed := true }
def GroveOrderUptoSaid : Prop := groveOrderUptoRow.holds Try.pinned (OpenSpec.upto groveOrderSpec)

/-- 'whilomlaw07.GroveParts', WHERE WHAT IT READS IS OF BULK AT MOST 1048576: true; the input reads as it did. -/
def grovePartsUptoRow : OpenClaim := { program := "ytjokolmijhhinaa", sum := "2cbd44695455a665bfbfc77aaf89587d7413b2587e1b21d3bbce416ac8129995", func := "whilom/whilomlaw07.GroveParts", spec := "groveParts", unfollowed := true, recurses := true, apart := false, narrowed := true }
def GrovePartsUptoSaid : Prop := grovePartsUptoRow.holds Try.pinned (OpenSpec.upto grovePartsSpec)

/-- 'whilomlaw09.ShelfTimes', WHERE WHAT IT READS IS OF BULK AT MOST 1048576: true; the input reads as it did. -/
def shelfTimesUptoRow : OpenClaim := { program := "ytjokolmijhhinaa", sum := "2cbd44695455a665bfbfc77aaf89587d7413b2587e1b21d3bbce416ac8129995", func := "whilom/whilomlaw09.ShelfTimes", spec := "shelfTimes", unfollowed := true, recurses := true, apart := false, narrowed := true }
def ShelfTimesUptoSaid : Prop := shelfTimesUptoRow.holds Try.pinned (OpenSpec.upto shelfTimesSpec)

/-- 'whilomlaw09.ShelfActs', WHERE WHAT IT READS IS OF BULK AT MOST 1048576: true; the input reads as it did. -/
def shelfActsUptoRow : OpenClaim := { program := "ytjokolmijhhinaa", sum := "2cbd44695455a665bfbfc77aaf89587d7413b2587e1b21d3bbce416ac8129995", func := "whilom/whilomlaw09.ShelfActs", spec := "shelfActs", unfollowed := true, recurses := true, apart := false, narrowed := true }
def ShelfActsUptoSaid : Prop := shelfActsUptoRow.holds Try.pinned (OpenSpec.upto shelfActsSpec)

end Rows
end Go.Proofs.Ytjokolmijhhinaa
