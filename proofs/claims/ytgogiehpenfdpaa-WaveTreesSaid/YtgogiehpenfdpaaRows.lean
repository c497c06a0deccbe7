/-
  No cell of these rows narrows 'for every input' (looked for: loops, veiled, ifaces, maps, wideKeys, modest, calm, conditions, laid).
  DERIVED. THE GIVEN ROWS OF THIS SEAT. 8 by the template 'for every input the law returns true; each argument reads behind the call as it read before'; 0 by the template 'total and deterministic' (their statements: YtgogiehpenfdpaaTotals.lean).
  GIVEN WITH THE SEED: the statements are not yours to turn. If you find one false, say at which input.
  Laid BY PROGRAM, IN A SANDBOX (cutbox-rows.mjs): the forced cells as the released guide's own fill.sh prints them over the translation 50cb37eaec5daa59… (all of the seat's roots in one cut). By AI agents, Wed Nov 11 2026. No macro, syntax, notation, axiom, sorry.
-/
import Derived.Test.YtgogiehpenfdpaaChecked
import GoSem.Claim
import GoSem.ClaimJoined
import GoSem.ClaimMapViews
import Derived.JoinedTies
import Derived.KernelRfl
namespace Go.Proofs.Ytgogiehpenfdpaa
/- THE CELL 'sum', in the pinned program and in every row, IS THE sha256 OF THE DUMP (.gsa) THAT YtgogiehpenfdpaaProg.lean LOADS. Nothing in Lean hashes anything: it is a label: what it is worth is what the hold of that sum in a sandbox is worth. -/
noncomputable def Try.pinned : Pinned := { name := "ytgogiehpenfdpaa", sum := "50cb37eaec5daa59eb6fd2dda22181e392000cfd2ec6f2eeb9640dac57f58783", checked := Try.checked }
namespace Rows
def none {H : Type} : Left H := { results := [], args := [] }

/-- 'whilomlaw03.ArenaCaps': WHATEVER THE INPUT: true; the input reads as it did. -/
def arenaCapsSpec : ChangeSpec := { name := "arenaCaps", fn := fun _ => fun
  | [d] => { results := [.lit (.bool true)], args := [d] }
  | _ => none }
def arenaCapsRow : OpenClaim := { program := "ytgogiehpenfdpaa", sum := "50cb37eaec5daa59eb6fd2dda22181e392000cfd2ec6f2eeb9640dac57f58783", func := "whilom/whilomlaw03.ArenaCaps", spec := "arenaCaps", apart := false }
def ArenaCapsSaid : Prop := arenaCapsRow.holds Try.pinned (OpenSpec.ofChange arenaCapsSpec)

/-- ITS FALSE NEIGHBOUR: 'it returns false'. Refute it at one input. -/
def arenaCapsWrong : ChangeSpec := { name := "arenaCaps", fn := fun _ => fun
  | [d] => { results := [.lit (.bool false)], args := [d] }
  | _ => none }
def ArenaCapsWrongFalsely : Prop := arenaCapsRow.holds Try.pinned (OpenSpec.ofChange arenaCapsWrong)

/-- 'whilomlaw03.ArenaItems': WHATEVER THE INPUT: true; the input reads as it did. -/
def arenaItemsSpec : ChangeSpec := { name := "arenaItems", fn := fun _ => fun
  | [d1, d2] => { results := [.lit (.bool true)], args := [d1, d2] }
  | _ => none }
def arenaItemsRow : OpenClaim := { program := "ytgogiehpenfdpaa", sum := "50cb37eaec5daa59eb6fd2dda22181e392000cfd2ec6f2eeb9640dac57f58783", func := "whilom/whilomlaw03.ArenaItems", spec := "arenaItems", apart := false }
def ArenaItemsSaid : Prop := arenaItemsRow.holds Try.pinned (OpenSpec.ofChange arenaItemsSpec)

/-- ITS FALSE NEIGHBOUR: 'it returns false'. Refute it at one input. -/
def arenaItemsWrong : ChangeSpec := { name := "arenaItems", fn := fun _ => fun
  | [d1, d2] => { results := [.lit (.bool false)], args := [d1, d2] }
  | _ => none }
def ArenaItemsWrongFalsely : Prop := arenaItemsRow.holds Try.pinned (OpenSpec.ofChange arenaItemsWrong)

/-- 'whilomlaw03.ArenaStale': WHATEVER THE INPUT: true; the input reads as it did. -/
def arenaStaleSpec : ChangeSpec := { name := "arenaStale", fn := fun _ => fun
  | [d] => { results := [.lit (.bool true)], args := [d] }
  | _ => none }
def arenaStaleRow : OpenClaim := { program := "ytgogiehpenfdpaa", sum := "50cb37eaec5daa59eb6fd2dda22181e392000cfd2ec6f2eeb9640dac57f58783", func := "whilom/whilomlaw03.ArenaStale", spec := "arenaStale", apart := false }
def ArenaStaleSaid : Prop := arenaStaleRow.holds Try.pinned (OpenSpec.ofChange arenaStaleSpec)

/-- ITS FALSE NEIGHBOUR: 'it returns false'. Refute it at one input. -/
def arenaStaleWrong : ChangeSpec := { name := "arenaStale", fn := fun _ => fun
  | [d] => { results := [.lit (.bool false)], args := [d] }
  | _ => none }
def ArenaStaleWrongFalsely : Prop := arenaStaleRow.holds Try.pinned (OpenSpec.ofChange arenaStaleWrong)

/-- 'whilomlaw03.ArenaActs': WHATEVER THE INPUT: true; the input reads as it did. -/
def arenaActsSpec : ChangeSpec := { name := "arenaActs", fn := fun _ => fun
  | [d1, d2] => { results := [.lit (.bool true)], args := [d1, d2] }
  | _ => none }
def arenaActsRow : OpenClaim := { program := "ytgogiehpenfdpaa", sum := "50cb37eaec5daa59eb6fd2dda22181e392000cfd2ec6f2eeb9640dac57f58783", func := "whilom/whilomlaw03.ArenaActs", spec := "arenaActs", apart := false }
def ArenaActsSaid : Prop := arenaActsRow.holds Try.pinned (OpenSpec.ofChange arenaActsSpec)

/-- ITS FALSE NEIGHBOUR: 'it returns false'. Refute it at one input. -/
def arenaActsWrong : ChangeSpec := { name := "arenaActs", fn := fun _ => fun
  | [d1, d2] => { results := [.lit (.bool false)], args := [d1, d2] }
  | _ => none }
def ArenaActsWrongFalsely : Prop := arenaActsRow.holds Try.pinned (OpenSpec.ofChange arenaActsWrong)

/-- 'whilomlaw08.WaveSums': WHATEVER THE INPUT: true; the input reads as it did. -/
def waveSumsSpec : ChangeSpec := { name := "waveSums", fn := fun _ => fun
  | [d] => { results := [.lit (.bool true)], args := [d] }
  | _ => none }
def waveSumsRow : OpenClaim := { program := "ytgogiehpenfdpaa", sum := "50cb37eaec5daa59eb6fd2dda22181e392000cfd2ec6f2eeb9640dac57f58783", func := "whilom/whilomlaw08.WaveSums", spec := "waveSums", apart := false }
def WaveSumsSaid : Prop := waveSumsRow.holds Try.pinned (OpenSpec.ofChange waveSumsSpec)

/-- ITS FALSE NEIGHBOUR: 'it returns false'. Refute it at one input. -/
def waveSumsWrong : ChangeSpec := { name := "waveSums", fn := fun _ => fun
  | [d] => { results := [.lit (.bool false)], args := [d] }
  | _ => none }
def WaveSumsWrongFalsely : Prop := waveSumsRow.holds Try.pinned (OpenSpec.ofChange waveSumsWrong)

/-- 'whilomlaw08.WaveParts': WHATEVER THE INPUT: true; the input reads as it did. -/
def wavePartsSpec : ChangeSpec := { name := "waveParts", fn := fun _ => fun
  | [d1, d2, d3] => { results := [.lit (.bool true)], args := [d1, d2, d3] }
  | _ => none }
def wavePartsRow : OpenClaim := { program := "ytgogiehpenfdpaa", sum := "50cb37eaec5daa59eb6fd2dda22181e392000cfd2ec6f2eeb9640dac57f58783", func := "whilom/whilomlaw08.WaveParts", spec := "waveParts", apart := false }
def WavePartsSaid : Prop := wavePartsRow.holds Try.pinned (OpenSpec.ofChange wavePartsSpec)

/-- ITS FALSE NEIGHBOUR: 'it returns false'. Refute it at one input. -/
def wavePartsWrong : ChangeSpec := { name := "waveParts", fn := fun _ => fun
  | [d1, d2, d3] => { results := [.lit (.bool false)], args := [d1, d2, d3] }
  | _ => none }
def WavePartsWrongFalsely : Prop := wavePartsRow.holds Try.pinned (OpenSpec.ofChange wavePartsWrong)

/-- 'whilomlaw08.WaveAbove': WHATEVER THE INPUT: true; the input reads as it did. -/
def waveAboveSpec : ChangeSpec := { name := "waveAbove", fn := fun _ => fun
  | [d1, d2] => { results := [.lit (.bool true)], args := [d1, d2] }
  | _ => none }
def waveAboveRow : OpenClaim := { program := "ytgogiehpenfdpaa", sum := "50cb37eaec5daa59eb6fd2dda22181e392000cfd2ec6f2eeb9640dac57f58783", func := "whilom/whilomlaw08.WaveAbove", spec := "waveAbove", apart := false }
def WaveAboveSaid : Prop := waveAboveRow.holds Try.pinned (OpenSpec.ofChange waveAboveSpec)

/-- ITS FALSE NEIGHBOUR: 'it returns false'. Refute it at one input. -/
def waveAboveWrong : ChangeSpec := { name := "waveAbove", fn := fun _ => fun
  | [d1, d2] => { results := [.lit (.bool false)], args := [d1, d2] }
  | _ => none }
def WaveAboveWrongFalsely : Prop := waveAboveRow.holds Try.pinned (OpenSpec.ofChange waveAboveWrong)

/-- 'whilomlaw08.WaveTrees': WHATEVER THE INPUT: true; the input reads as it did. -/
def waveTreesSpec : ChangeSpec := { name := "waveTrees", fn := fun _ => fun
  | [d1, d2, d3] => { results := [.lit (.bool true)], args := [d1, d2, d3] }
  | _ => none }
def waveTreesRow : OpenClaim := { program := "ytgogiehpenfdpaa", sum := "50cb37eaec5daa59eb6fd2dda22181e392000cfd2ec6f2eeb9640dac57f58783", func := "whilom/whilomlaw08.WaveTrees", spec := "waveTrees", unfollowed := true, recurses := true, apart := false }
def WaveTreesSaid : Prop := waveTreesRow.holds Try.pinned (OpenSpec.ofChange waveTreesSpec)

/-- ITS FALSE NEIGHBOUR: 'it returns false'. Refute it at one input. -/
def waveTreesWrong : ChangeSpec := { name := "waveTrees", fn := fun _ => fun
  | [d1, d2, d3] => { results := [.lit (.bool false)], args := [d1, d2, d3] }
  | _ => none }
def WaveTreesWrongFalsely : Prop := waveTreesRow.holds Try.pinned (OpenSpec.ofChange waveTreesWrong)

/- THE SECOND FORM. 'bulk': how many values and letters a reading holds, each counted each time it is reached (what is shared counts as often as it is met; a slice's spare places count too). A statement '..UptoSaid' is the law's where the arguments, and the package variables that the reading takes, are together of bulk at most 1048576: NARROWER than '..Said'. Prove '..Said' where nothing that the law and all that it calls make is longer than what came in: it says more and counts as full. Else prove '..UptoSaid'. A law counts once. -/
mutual
def uptoBulk {H : Type} : DataW H → Nat
  | .lit (.string bytes) => bytes.length + 1
  | .lit _ => 1
  | .nil => 1
  | .ptr d => uptoBulk d + 1
  | .slice elems spare => uptoBulkAll elems + uptoBulkAll spare + 1
  | .agg parts => uptoBulkAll parts + 1
  | .iface _ d => uptoBulk d + 1
  | .map entries => uptoBulkEntries entries + 1
  | .held _ => 1
def uptoBulkAll {H : Type} : List (DataW H) → Nat
  | [] => 0
  | d :: r => uptoBulk d + uptoBulkAll r
def uptoBulkEntries {H : Type} : List (Lit × DataW H) → Nat
  | [] => 0
  | x :: r => uptoBulkEntry x + uptoBulkEntries r
def uptoBulkEntry {H : Type} : Lit × DataW H → Nat
  | (.string bytes, d) => bytes.length + uptoBulk d + 1
  | (_, d) => uptoBulk d + 1
 end
def uptoSmall : (H : Type) → List (DataW H) → Bool := fun _ ds => decide (uptoBulkAll ds ≤ 1048576)
def OpenSpec.upto (s : _root_.Go.ChangeSpec) : _root_.Go.OpenSpec := { _root_.Go.OpenSpec.ofChange s with cond := some uptoSmall }

/-- 'whilomlaw03.ArenaCaps', WHERE WHAT IT READS IS OF BULK AT MOST 1048576: true; the input reads as it did. -/
def arenaCapsUptoRow : OpenClaim := { program := "ytgogiehpenfdpaa", sum := "50cb37eaec5daa59eb6fd2dda22181e392000cfd2ec6f2eeb9640dac57f58783", func := "whilom/whilomlaw03.ArenaCaps", spec := "arenaCaps", apart := false, narrowed := true }
def ArenaCapsUptoSaid : Prop := arenaCapsUptoRow.holds Try.pinned (OpenSpec.upto arenaCapsSpec)

/-- 'whilomlaw03.ArenaItems', WHERE WHAT IT READS IS OF BULK AT MOST 1048576: true; the input reads as it did. -/
def arenaItemsUptoRow : OpenClaim := { program := "ytgogiehpenfdpaa", sum := "50cb37eaec5daa59eb6fd2dda22181e392000cfd2ec6f2eeb9640dac57f58783", func := "whilom/whilomlaw03.ArenaItems", spec := "arenaItems", apart := false, narrowed := true }
def ArenaItemsUptoSaid : Prop := arenaItemsUptoRow.holds Try.pinned (OpenSpec.upto arenaItemsSpec)

/-- 'whilomlaw03.ArenaStale', WHERE WHAT IT READS IS OF BULK AT MOST 1048576: true; the input reads as it did. -/
def arenaStaleUptoRow : OpenClaim := { program := "ytgogiehpenfdpaa", sum := "50cb37eaec5daa59eb6fd2dda22181e392000cfd2ec6f2eeb9640dac57f58783", func := "whilom/whilomlaw03.ArenaStale", spec := "arenaStale", apart := false, narrowed := true }
def ArenaStaleUptoSaid : Prop := arenaStaleUptoRow.holds Try.pinned (OpenSpec.upto arenaStaleSpec)

/-- 'whilomlaw03.ArenaActs', WHERE WHAT IT READS IS OF BULK AT MOST 1048576: true; the input reads as it did. -/
def arenaActsUptoRow : OpenClaim := { program := "ytgogiehpenfdpaa", sum := "50cb37eaec5daa59eb6fd2dda22181e392000cfd2ec6f2eeb9640dac57f58783", func := "whilom/whilomlaw03.ArenaActs", spec := "arenaActs", apart := false, narrowed := true }
def ArenaActsUptoSaid : Prop := arenaActsUptoRow.holds Try.pinned (OpenSpec.upto arenaActsSpec)

/-- 'whilomlaw08.WaveSums', WHERE WHAT IT READS IS OF BULK AT MOST 1048576: true; the input reads as it did. -/
def waveSumsUptoRow : OpenClaim := { program := "ytgogiehpenfdpaa", sum := "50cb37eaec5daa59eb6fd2dda22181e392000cfd2ec6f2eeb9640dac57f58783", func := "whilom/whilomlaw08.WaveSums", spec := "waveSums", apart := false, narrowed := true }
def WaveSumsUptoSaid : Prop := waveSumsUptoRow.holds Try.pinned (OpenSpec.upto waveSumsSpec)

/-- 'whilomlaw08.WaveParts', WHERE WHAT IT READS IS OF BULK AT MOST 1048576: true; the input reads as it did. -/
def wavePartsUptoRow : OpenClaim := { program := "ytgogiehpenfdpaa", sum := "50cb37eaec5daa59eb6fd2dda22181e392000cfd2ec6f2eeb9640dac57f58783", func := "whilom/whilomlaw08.WaveParts", spec := "waveParts", apart := false, narrowed := true }
def WavePartsUptoSaid : Prop := wavePartsUptoRow.holds Try.pinned (OpenSpec.upto wavePartsSpec)

/-- 'whilomlaw08.WaveAbove', WHERE WHAT IT READS IS OF BULK AT MOST 1048576: true; the input reads as it did. -/
def waveAboveUptoRow : OpenClaim := { program := "ytgogiehpenfdpaa", sum := "50cb37eaec5daa59eb6fd2dda22181e392000cfd2ec6f2eeb9640dac57f58783", func := "whilom/whilomlaw08.WaveAbove", spec := "waveAbove", apart := false, narrowed := true }
def WaveAboveUptoSaid : Prop := waveAboveUptoRow.holds Try.pinned (OpenSpec.upto waveAboveSpec)

/-- 'whilomlaw08.WaveTrees', WHERE WHAT IT READS IS OF BULK AT MOST 1048576: true; the input reads as it did. -/
def waveTreesUptoRow : OpenClaim := { program := "ytgogiehpenfdpaa", sum := "50cb37eaec5daa59eb6fd2dda22181e392000cfd2ec6f2eeb9640dac57f58783", func := "whilom/whilomlaw08.WaveTrees", spec := "waveTrees", unfollowed := true, recurses := true, apart := false, narrowed := true }
def WaveTreesUptoSaid : Prop := waveTreesUptoRow.holds Try.pinned (OpenSpec.upto waveTreesSpec)

end Rows
end Go.Proofs.Ytgogiehpenfdpaa
