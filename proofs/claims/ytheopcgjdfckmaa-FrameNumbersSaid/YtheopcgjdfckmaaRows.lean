/-
  No cell of these rows narrows 'for every input' (looked for: loops, veiled, ifaces, maps, wideKeys, modest, calm, conditions, laid).
  DERIVED. THE GIVEN ROWS OF THIS SEAT. 12 by the template 'for every input the law returns true; each argument reads behind the call as it read before'; 0 by the template 'total and deterministic' (their statements: YtheopcgjdfckmaaTotals.lean).
  GIVEN WITH THE SEED: the statements are not yours to turn. If you find one false, say at which input.
  Laid BY PROGRAM, IN A SANDBOX (cutbox-rows.mjs): the forced cells as the released guide's own fill.sh prints them over the translation f179fa4a1c57fb91… (all of the seat's roots in one cut). By AI agents, Wed Nov 11 2026. No macro, syntax, notation, axiom, sorry.
-/
import Derived.Test.YtheopcgjdfckmaaChecked
import GoSem.Claim
import GoSem.ClaimJoined
import GoSem.ClaimMapViews
import Derived.JoinedTies
import Derived.KernelRfl
namespace Go.Proofs.Ytheopcgjdfckmaa
/- THE CELL 'sum', in the pinned program and in every row, IS THE sha256 OF THE DUMP (.gsa) THAT YtheopcgjdfckmaaProg.lean LOADS. Nothing in Lean hashes anything: it is a label: what it is worth is what the hold of that sum in a sandbox is worth. -/
noncomputable def Try.pinned : Pinned := { name := "ytheopcgjdfckmaa", sum := "f179fa4a1c57fb91b1f962e38f7b80da476724adacc5603d9794fd9dc0f5cb86", checked := Try.checked }
namespace Rows
def none {H : Type} : Left H := { results := [], args := [] }

/-- 'whilomlaw06.TideOf': WHATEVER THE INPUT: true; the input reads as it did. -/
def tideOfSpec : ChangeSpec := { name := "tideOf", fn := fun _ => fun
  | [d] => { results := [.lit (.bool true)], args := [d] }
  | _ => none }
def tideOfRow : OpenClaim := { program := "ytheopcgjdfckmaa", sum := "f179fa4a1c57fb91b1f962e38f7b80da476724adacc5603d9794fd9dc0f5cb86", func := "whilom/whilomlaw06.TideOf", spec := "tideOf", apart := false }
def TideOfSaid : Prop := tideOfRow.holds Try.pinned (OpenSpec.ofChange tideOfSpec)

/-- ITS FALSE NEIGHBOUR: 'it returns false'. Refute it at one input. -/
def tideOfWrong : ChangeSpec := { name := "tideOf", fn := fun _ => fun
  | [d] => { results := [.lit (.bool false)], args := [d] }
  | _ => none }
def TideOfWrongFalsely : Prop := tideOfRow.holds Try.pinned (OpenSpec.ofChange tideOfWrong)

/-- 'whilomlaw06.TideParts': WHATEVER THE INPUT: true; the input reads as it did. -/
def tidePartsSpec : ChangeSpec := { name := "tideParts", fn := fun _ => fun
  | [d1, d2, d3] => { results := [.lit (.bool true)], args := [d1, d2, d3] }
  | _ => none }
def tidePartsRow : OpenClaim := { program := "ytheopcgjdfckmaa", sum := "f179fa4a1c57fb91b1f962e38f7b80da476724adacc5603d9794fd9dc0f5cb86", func := "whilom/whilomlaw06.TideParts", spec := "tideParts", apart := false }
def TidePartsSaid : Prop := tidePartsRow.holds Try.pinned (OpenSpec.ofChange tidePartsSpec)

/-- ITS FALSE NEIGHBOUR: 'it returns false'. Refute it at one input. -/
def tidePartsWrong : ChangeSpec := { name := "tideParts", fn := fun _ => fun
  | [d1, d2, d3] => { results := [.lit (.bool false)], args := [d1, d2, d3] }
  | _ => none }
def TidePartsWrongFalsely : Prop := tidePartsRow.holds Try.pinned (OpenSpec.ofChange tidePartsWrong)

/-- 'whilomlaw06.TidePlus': WHATEVER THE INPUT: true; the input reads as it did. -/
def tidePlusSpec : ChangeSpec := { name := "tidePlus", fn := fun _ => fun
  | [d1, d2, d3] => { results := [.lit (.bool true)], args := [d1, d2, d3] }
  | _ => none }
def tidePlusRow : OpenClaim := { program := "ytheopcgjdfckmaa", sum := "f179fa4a1c57fb91b1f962e38f7b80da476724adacc5603d9794fd9dc0f5cb86", func := "whilom/whilomlaw06.TidePlus", spec := "tidePlus", apart := false }
def TidePlusSaid : Prop := tidePlusRow.holds Try.pinned (OpenSpec.ofChange tidePlusSpec)

/-- ITS FALSE NEIGHBOUR: 'it returns false'. Refute it at one input. -/
def tidePlusWrong : ChangeSpec := { name := "tidePlus", fn := fun _ => fun
  | [d1, d2, d3] => { results := [.lit (.bool false)], args := [d1, d2, d3] }
  | _ => none }
def TidePlusWrongFalsely : Prop := tidePlusRow.holds Try.pinned (OpenSpec.ofChange tidePlusWrong)

/-- 'whilomlaw06.TideFloors': WHATEVER THE INPUT: true; the input reads as it did. -/
def tideFloorsSpec : ChangeSpec := { name := "tideFloors", fn := fun _ => fun
  | [d1, d2] => { results := [.lit (.bool true)], args := [d1, d2] }
  | _ => none }
def tideFloorsRow : OpenClaim := { program := "ytheopcgjdfckmaa", sum := "f179fa4a1c57fb91b1f962e38f7b80da476724adacc5603d9794fd9dc0f5cb86", func := "whilom/whilomlaw06.TideFloors", spec := "tideFloors", apart := false }
def TideFloorsSaid : Prop := tideFloorsRow.holds Try.pinned (OpenSpec.ofChange tideFloorsSpec)

/-- ITS FALSE NEIGHBOUR: 'it returns false'. Refute it at one input. -/
def tideFloorsWrong : ChangeSpec := { name := "tideFloors", fn := fun _ => fun
  | [d1, d2] => { results := [.lit (.bool false)], args := [d1, d2] }
  | _ => none }
def TideFloorsWrongFalsely : Prop := tideFloorsRow.holds Try.pinned (OpenSpec.ofChange tideFloorsWrong)

/-- 'whilomlaw18.CrcSums': WHATEVER THE INPUT: true; the input reads as it did. -/
def crcSumsSpec : ChangeSpec := { name := "crcSums", fn := fun _ => fun
  | [d] => { results := [.lit (.bool true)], args := [d] }
  | _ => none }
def crcSumsRow : OpenClaim := { program := "ytheopcgjdfckmaa", sum := "f179fa4a1c57fb91b1f962e38f7b80da476724adacc5603d9794fd9dc0f5cb86", func := "whilom/whilomlaw18.CrcSums", spec := "crcSums", apart := false }
def CrcSumsSaid : Prop := crcSumsRow.holds Try.pinned (OpenSpec.ofChange crcSumsSpec)

/-- ITS FALSE NEIGHBOUR: 'it returns false'. Refute it at one input. -/
def crcSumsWrong : ChangeSpec := { name := "crcSums", fn := fun _ => fun
  | [d] => { results := [.lit (.bool false)], args := [d] }
  | _ => none }
def CrcSumsWrongFalsely : Prop := crcSumsRow.holds Try.pinned (OpenSpec.ofChange crcSumsWrong)

/-- 'whilomlaw18.CrcMore': WHATEVER THE INPUT: true; the input reads as it did. -/
def crcMoreSpec : ChangeSpec := { name := "crcMore", fn := fun _ => fun
  | [d1, d2] => { results := [.lit (.bool true)], args := [d1, d2] }
  | _ => none }
def crcMoreRow : OpenClaim := { program := "ytheopcgjdfckmaa", sum := "f179fa4a1c57fb91b1f962e38f7b80da476724adacc5603d9794fd9dc0f5cb86", func := "whilom/whilomlaw18.CrcMore", spec := "crcMore", apart := false }
def CrcMoreSaid : Prop := crcMoreRow.holds Try.pinned (OpenSpec.ofChange crcMoreSpec)

/-- ITS FALSE NEIGHBOUR: 'it returns false'. Refute it at one input. -/
def crcMoreWrong : ChangeSpec := { name := "crcMore", fn := fun _ => fun
  | [d1, d2] => { results := [.lit (.bool false)], args := [d1, d2] }
  | _ => none }
def CrcMoreWrongFalsely : Prop := crcMoreRow.holds Try.pinned (OpenSpec.ofChange crcMoreWrong)

/-- 'whilomlaw18.CrcBursts': WHATEVER THE INPUT: true; the input reads as it did. -/
def crcBurstsSpec : ChangeSpec := { name := "crcBursts", fn := fun _ => fun
  | [d1, d2, d3] => { results := [.lit (.bool true)], args := [d1, d2, d3] }
  | _ => none }
def crcBurstsRow : OpenClaim := { program := "ytheopcgjdfckmaa", sum := "f179fa4a1c57fb91b1f962e38f7b80da476724adacc5603d9794fd9dc0f5cb86", func := "whilom/whilomlaw18.CrcBursts", spec := "crcBursts", apart := false }
def CrcBurstsSaid : Prop := crcBurstsRow.holds Try.pinned (OpenSpec.ofChange crcBurstsSpec)

/-- ITS FALSE NEIGHBOUR: 'it returns false'. Refute it at one input. -/
def crcBurstsWrong : ChangeSpec := { name := "crcBursts", fn := fun _ => fun
  | [d1, d2, d3] => { results := [.lit (.bool false)], args := [d1, d2, d3] }
  | _ => none }
def CrcBurstsWrongFalsely : Prop := crcBurstsRow.holds Try.pinned (OpenSpec.ofChange crcBurstsWrong)

/-- 'whilomlaw19.FramePuts': WHATEVER THE INPUT: true; the input reads as it did. -/
def framePutsSpec : ChangeSpec := { name := "framePuts", fn := fun _ => fun
  | [d] => { results := [.lit (.bool true)], args := [d] }
  | _ => none }
def framePutsRow : OpenClaim := { program := "ytheopcgjdfckmaa", sum := "f179fa4a1c57fb91b1f962e38f7b80da476724adacc5603d9794fd9dc0f5cb86", func := "whilom/whilomlaw19.FramePuts", spec := "framePuts", apart := false }
def FramePutsSaid : Prop := framePutsRow.holds Try.pinned (OpenSpec.ofChange framePutsSpec)

/-- ITS FALSE NEIGHBOUR: 'it returns false'. Refute it at one input. -/
def framePutsWrong : ChangeSpec := { name := "framePuts", fn := fun _ => fun
  | [d] => { results := [.lit (.bool false)], args := [d] }
  | _ => none }
def FramePutsWrongFalsely : Prop := framePutsRow.holds Try.pinned (OpenSpec.ofChange framePutsWrong)

/-- 'whilomlaw19.FrameGets': WHATEVER THE INPUT: true; the input reads as it did. -/
def frameGetsSpec : ChangeSpec := { name := "frameGets", fn := fun _ => fun
  | [d] => { results := [.lit (.bool true)], args := [d] }
  | _ => none }
def frameGetsRow : OpenClaim := { program := "ytheopcgjdfckmaa", sum := "f179fa4a1c57fb91b1f962e38f7b80da476724adacc5603d9794fd9dc0f5cb86", func := "whilom/whilomlaw19.FrameGets", spec := "frameGets", apart := false }
def FrameGetsSaid : Prop := frameGetsRow.holds Try.pinned (OpenSpec.ofChange frameGetsSpec)

/-- ITS FALSE NEIGHBOUR: 'it returns false'. Refute it at one input. -/
def frameGetsWrong : ChangeSpec := { name := "frameGets", fn := fun _ => fun
  | [d] => { results := [.lit (.bool false)], args := [d] }
  | _ => none }
def FrameGetsWrongFalsely : Prop := frameGetsRow.holds Try.pinned (OpenSpec.ofChange frameGetsWrong)

/-- 'whilomlaw19.FrameOctet': WHATEVER THE INPUT: true; the input reads as it did. -/
def frameOctetSpec : ChangeSpec := { name := "frameOctet", fn := fun _ => fun
  | [d1, d2, d3] => { results := [.lit (.bool true)], args := [d1, d2, d3] }
  | _ => none }
def frameOctetRow : OpenClaim := { program := "ytheopcgjdfckmaa", sum := "f179fa4a1c57fb91b1f962e38f7b80da476724adacc5603d9794fd9dc0f5cb86", func := "whilom/whilomlaw19.FrameOctet", spec := "frameOctet", apart := false }
def FrameOctetSaid : Prop := frameOctetRow.holds Try.pinned (OpenSpec.ofChange frameOctetSpec)

/-- ITS FALSE NEIGHBOUR: 'it returns false'. Refute it at one input. -/
def frameOctetWrong : ChangeSpec := { name := "frameOctet", fn := fun _ => fun
  | [d1, d2, d3] => { results := [.lit (.bool false)], args := [d1, d2, d3] }
  | _ => none }
def FrameOctetWrongFalsely : Prop := frameOctetRow.holds Try.pinned (OpenSpec.ofChange frameOctetWrong)

/-- 'whilomlaw19.FrameJoined': WHATEVER THE INPUT: true; the input reads as it did. -/
def frameJoinedSpec : ChangeSpec := { name := "frameJoined", fn := fun _ => fun
  | [d1, d2] => { results := [.lit (.bool true)], args := [d1, d2] }
  | _ => none }
def frameJoinedRow : OpenClaim := { program := "ytheopcgjdfckmaa", sum := "f179fa4a1c57fb91b1f962e38f7b80da476724adacc5603d9794fd9dc0f5cb86", func := "whilom/whilomlaw19.FrameJoined", spec := "frameJoined", apart := false }
def FrameJoinedSaid : Prop := frameJoinedRow.holds Try.pinned (OpenSpec.ofChange frameJoinedSpec)

/-- ITS FALSE NEIGHBOUR: 'it returns false'. Refute it at one input. -/
def frameJoinedWrong : ChangeSpec := { name := "frameJoined", fn := fun _ => fun
  | [d1, d2] => { results := [.lit (.bool false)], args := [d1, d2] }
  | _ => none }
def FrameJoinedWrongFalsely : Prop := frameJoinedRow.holds Try.pinned (OpenSpec.ofChange frameJoinedWrong)

/-- 'whilomlaw19.FrameNumbers': WHATEVER THE INPUT: true; the input reads as it did. -/
def frameNumbersSpec : ChangeSpec := { name := "frameNumbers", fn := fun _ => fun
  | [d1, d2] => { results := [.lit (.bool true)], args := [d1, d2] }
  | _ => none }
def frameNumbersRow : OpenClaim := { program := "ytheopcgjdfckmaa", sum := "f179fa4a1c57fb91b1f962e38f7b80da476724adacc5603d9794fd9dc0f5cb86", func := "whilom/whilomlaw19.FrameNumbers", spec := "frameNumbers", unfollowed := true, recurses := true, apart := false }
def FrameNumbersSaid : Prop := frameNumbersRow.holds Try.pinned (OpenSpec.ofChange frameNumbersSpec)

/-- ITS FALSE NEIGHBOUR: 'it returns false'. Refute it at one input. -/
def frameNumbersWrong : ChangeSpec := { name := "frameNumbers", fn := fun _ => fun
  | [d1, d2] => { results := [.lit (.bool false)], args := [d1, d2] }
  | _ => none }
def FrameNumbersWrongFalsely : Prop := frameNumbersRow.holds Try.pinned (OpenSpec.ofChange frameNumbersWrong)

/- THE SECOND FORM. 'bulk': how many values and letters a reading holds, each counted each time it is reached (what is shared counts as often as it is met; a slice's spare places count too). A statement '..UptoSaid' is the law's where the arguments, and the package variables that the reading takes, are together of bulk at most 1048576: NARROWER than '..Said'. Prove '..Said' where nothing that the law and all that it calls make is longer than what came in: it says more and counts as full. Else prove '..UptoSaid'. A law counts once. -/
mutual
def uptoBulk {H : Type} : DataW H → Nat
  | .lit (.string bytes) => bytes.length + 1
  | .lit _ => 1
  | .nil => 1
  | .ptr d => uptoBulk d + 1
  | .slice elems spare => uptoBulkAll elems + uptoBulkAll spare + 1
  | .agg parts => uptoBulkAll parts + 1
  | .iface _ d => uptoBulk d + 1
  | .map entries => uptoBulkEntries entries + 1
  | .held _ => 1
def uptoBulkAll {H : Type} : List (DataW H) → Nat
  | [] => 0
  | d :: r => uptoBulk d + uptoBulkAll r
def uptoBulkEntries {H : Type} : List (Lit × DataW H) → Nat
  | [] => 0
  | x :: r => uptoBulkEntry x + uptoBulkEntries r
def uptoBulkEntry {H : Type} : Lit × DataW H → Nat
  | (.string bytes, d) => bytes.length + uptoBulk d + 1
  | (_, d) => uptoBulk d + 1
 end
def uptoSmall : (H : Type) → List (DataW H) → Bool := fun _ ds => decide (uptoBulkAll ds ≤ 1048576)
def OpenSpec.upto (s : _root_.Go.ChangeSpec) : _root_.Go.OpenSpec := { _root_.Go.OpenSpec.ofChange s with cond := some uptoSmall }

/-- 'whilomlaw06.TideOf', WHERE WHAT IT READS IS OF BULK AT MOST 1048576: true; the input reads as it did. -/
def tideOfUptoRow : OpenClaim := { program := "ytheopcgjdfckmaa", sum := "f179fa4a1c57fb91b1f962e38f7b80da476724adacc5603d9794fd9dc0f5cb86", func := "whilom/whilomlaw06.TideOf", spec := "tideOf", apart := false, narrowed := true }
def TideOfUptoSaid : Prop := tideOfUptoRow.holds Try.pinned (OpenSpec.upto tideOfSpec)

/-- 'whilomlaw06.TideParts', WHERE WHAT IT READS IS OF BULK AT MOST 1048576: true; the input reads as it did. -/
def tidePartsUptoRow : OpenClaim := { program := "ytheopcgjdfckmaa", sum := "f179fa4a1c57fb91b1f962e38f7b80da476724adacc5603d9794fd9dc0f5cb86", func := "whilom/whilomlaw06.TideParts", spec := "tideParts", apart := false, narrowed := true }
def TidePartsUptoSaid : Prop := tidePartsUptoRow.holds Try.pinned (OpenSpec.upto tidePartsSpec)

/-- 'whilomlaw06.TidePlus', WHERE WHAT IT READS IS OF BULK AT MOST 1048576: true; the input reads as it did. -/
def tidePlusUptoRow : OpenClaim := { program := "ytheopcgjdfckmaa", sum := "f179fa4a1c57fb91b1f962e38f7b80da476724adacc5603d9794fd9dc0f5cb86", func := "whilom/whilomlaw06.TidePlus", spec := "tidePlus", apart := false, narrowed := true }
def TidePlusUptoSaid : Prop := tidePlusUptoRow.holds Try.pinned (OpenSpec.upto tidePlusSpec)

/-- 'whilomlaw06.TideFloors', WHERE WHAT IT READS IS OF BULK AT MOST 1048576: true; the input reads as it did. -/
def tideFloorsUptoRow : OpenClaim := { program := "ytheopcgjdfckmaa", sum := "f179fa4a1c57fb91b1f962e38f7b80da476724adacc5603d9794fd9dc0f5cb86", func := "whilom/whilomlaw06.TideFloors", spec := "tideFloors", apart := false, narrowed := true }
def TideFloorsUptoSaid : Prop := tideFloorsUptoRow.holds Try.pinned (OpenSpec.upto tideFloorsSpec)

/-- 'whilomlaw18.CrcSums', WHERE WHAT IT READS IS OF BULK AT MOST 1048576: true; the input reads as it did. -/
def crcSumsUptoRow : OpenClaim := { program := "ytheopcgjdfckmaa", sum := "f179fa4a1c57fb91b1f962e38f7b80da476724adacc5603d9794fd9dc0f5cb86", func := "whilom/whilomlaw18.CrcSums", spec := "crcSums", apart := false, narrowed := true }
def CrcSumsUptoSaid : Prop := crcSumsUptoRow.holds Try.pinned (OpenSpec.upto crcSumsSpec)

/-- 'whilomlaw18.CrcMore', WHERE WHAT IT READS IS OF BULK AT MOST 1048576: true; the input reads as it did. -/
def crcMoreUptoRow : OpenClaim := { program := "ytheopcgjdfckmaa", sum := "f179fa4a1c57fb91b1f962e38f7b80da476724adacc5603d9794fd9dc0f5cb86", func := "whilom/whilomlaw18.CrcMore", spec := "crcMore", apart := false, narrowed := true }
def CrcMoreUptoSaid : Prop := crcMoreUptoRow.holds Try.pinned (OpenSpec.upto crcMoreSpec)

/-- 'whilomlaw18.CrcBursts', WHERE WHAT IT READS IS OF BULK AT MOST 1048576: true; the input reads as it did. -/
def crcBurstsUptoRow : OpenClaim := { program := "ytheopcgjdfckmaa", sum := "f179fa4a1c57fb91b1f962e38f7b80da476724adacc5603d9794fd9dc0f5cb86", func := "whilom/whilomlaw18.CrcBursts", spec := "crcBursts", apart := false, narrowed := true }
def CrcBurstsUptoSaid : Prop := crcBurstsUptoRow.holds Try.pinned (OpenSpec.upto crcBurstsSpec)

/-- 'whilomlaw19.FramePuts', WHERE WHAT IT READS IS OF BULK AT MOST 1048576: true; the input reads as it did. -/
def framePutsUptoRow : OpenClaim := { program := "ytheopcgjdfckmaa", sum := "f179fa4a1c57fb91b1f962e38f7b80da476724adacc5603d9794fd9dc0f5cb86", func := "whilom/whilomlaw19.FramePuts", spec := "framePuts", apart := false, narrowed := true }
def FramePutsUptoSaid : Prop := framePutsUptoRow.holds Try.pinned (OpenSpec.upto framePutsSpec)

/-- 'whilomlaw19.FrameGets', WHERE WHAT IT READS IS OF BULK AT MOST 1048576: true; the input reads as it did. -/
def frameGetsUptoRow : OpenClaim := { program := "ytheopcgjdfckmaa", sum := "f179fa4a1c57fb91b1f962e38f7b80da476724adacc5603d9794fd9dc0f5cb86", func := "whilom/whilomlaw19.FrameGets", spec := "frameGets", apart := false, narrowed := true }
def FrameGetsUptoSaid : Prop := frameGetsUptoRow.holds Try.pinned (OpenSpec.upto frameGetsSpec)

/-- 'whilomlaw19.FrameOctet', WHERE WHAT IT READS IS OF BULK AT MOST 1048576: true; the input reads as it did. -/
def frameOctetUptoRow : OpenClaim := { program := "ytheopcgjdfckmaa", sum := "f179fa4a1c57fb91b1f962e38f7b80da476724adacc5603d9794fd9dc0f5cb86", func := "whilom/whilomlaw19.FrameOctet", spec := "frameOctet", apart := false, narrowed := true }
def FrameOctetUptoSaid : Prop := frameOctetUptoRow.holds Try.pinned (OpenSpec.upto frameOctetSpec)

/-- 'whilomlaw19.FrameJoined', WHERE WHAT IT READS IS OF BULK AT MOST 1048576: true; the input reads as it did. -/
def frameJoinedUptoRow : OpenClaim := { program := "ytheopcgjdfckmaa", sum := "f179fa4a1c57fb91b1f962e38f7b80da476724adacc5603d9794fd9dc0f5cb86", func := "whilom/whilomlaw19.FrameJoined", spec := "frameJoined", apart := false, narrowed := true }
def FrameJoinedUptoSaid : Prop := frameJoinedUptoRow.holds Try.pinned (OpenSpec.upto frameJoinedSpec)

/-- 'whilomlaw19.FrameNumbers', WHERE WHAT IT READS IS OF BULK AT MOST 1048576: true; the input reads as it did. -/
def frameNumbersUptoRow : OpenClaim := { program := "ytheopcgjdfckmaa", sum := "f179fa4a1c57fb91b1f962e38f7b80da476724adacc5603d9794fd9dc0f5cb86", func := "whilom/whilomlaw19.FrameNumbers", spec := "frameNumbers", unfollowed := true, recurses := true, apart := false, narrowed := true }
def FrameNumbersUptoSaid : Prop := frameNumbersUptoRow.holds Try.pinned (OpenSpec.upto frameNumbersSpec)

end Rows
end Go.Proofs.Ytheopcgjdfckmaa
