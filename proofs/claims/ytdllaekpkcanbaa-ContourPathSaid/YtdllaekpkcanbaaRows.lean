/-
  No cell of these rows narrows 'for every input' (looked for: loops, veiled, ifaces, maps, wideKeys, modest, calm, conditions, laid).
  DERIVED. THE GIVEN ROWS OF THIS SEAT. 13 by the template 'for every input the law returns true; each argument reads behind the call as it read before'; 0 by the template 'total and deterministic' (their statements: YtdllaekpkcanbaaTotals.lean).
  GIVEN WITH THE SEED: the statements are not yours to turn. If you find one false, say at which input.
  Laid BY PROGRAM, IN A SANDBOX (cutbox-rows.mjs): the forced cells as the released guide's own fill.sh prints them over the translation 7f329afd819a906f… (all of the seat's roots in one cut). By AI agents, Wed Nov 11 2026. No macro, syntax, notation, axiom, sorry.
-/
import Derived.Test.YtdllaekpkcanbaaChecked
import GoSem.Claim
import GoSem.ClaimJoined
import GoSem.ClaimMapViews
import Derived.JoinedTies
import Derived.KernelRfl
namespace Go.Proofs.Ytdllaekpkcanbaa
/- THE CELL 'sum', in the pinned program and in every row, IS THE sha256 OF THE DUMP (.gsa) THAT YtdllaekpkcanbaaProg.lean LOADS. Nothing in Lean hashes anything: it is a label: what it is worth is what the hold of that sum in a sandbox is worth. -/
noncomputable def Try.pinned : Pinned := { name := "ytdllaekpkcanbaa", sum := "7f329afd819a906f27bcac71f9c14954372f4e5fed8d8177e619c3c49ff99418", checked := Try.checked }
namespace Rows
def none {H : Type} : Left H := { results := [], args := [] }

/-- 'cnclaw41.ContourLine': WHATEVER THE INPUT: true; the input reads as it did. -/
def contourLineSpec : ChangeSpec := { name := "contourLine", fn := fun _ => fun
  | [d1, d2, d3, d4] => { results := [.lit (.bool true)], args := [d1, d2, d3, d4] }
  | _ => none }
def contourLineRow : OpenClaim := { program := "ytdllaekpkcanbaa", sum := "7f329afd819a906f27bcac71f9c14954372f4e5fed8d8177e619c3c49ff99418", func := "cnc/cnclaw41.ContourLine", spec := "contourLine", apart := false }
def ContourLineSaid : Prop := contourLineRow.holds Try.pinned (OpenSpec.ofChange contourLineSpec)

/-- ITS FALSE NEIGHBOUR: 'it returns false'. Refute it at one input. -/
def contourLineWrong : ChangeSpec := { name := "contourLine", fn := fun _ => fun
  | [d1, d2, d3, d4] => { results := [.lit (.bool false)], args := [d1, d2, d3, d4] }
  | _ => none }
def ContourLineWrongFalsely : Prop := contourLineRow.holds Try.pinned (OpenSpec.ofChange contourLineWrong)

/-- 'cnclaw41.ContourArc': WHATEVER THE INPUT: true; the input reads as it did. -/
def contourArcSpec : ChangeSpec := { name := "contourArc", fn := fun _ => fun
  | [d1, d2, d3, d4, d5] => { results := [.lit (.bool true)], args := [d1, d2, d3, d4, d5] }
  | _ => none }
def contourArcRow : OpenClaim := { program := "ytdllaekpkcanbaa", sum := "7f329afd819a906f27bcac71f9c14954372f4e5fed8d8177e619c3c49ff99418", func := "cnc/cnclaw41.ContourArc", spec := "contourArc", recurses := true, apart := false }
def ContourArcSaid : Prop := contourArcRow.holds Try.pinned (OpenSpec.ofChange contourArcSpec)

/-- ITS FALSE NEIGHBOUR: 'it returns false'. Refute it at one input. -/
def contourArcWrong : ChangeSpec := { name := "contourArc", fn := fun _ => fun
  | [d1, d2, d3, d4, d5] => { results := [.lit (.bool false)], args := [d1, d2, d3, d4, d5] }
  | _ => none }
def ContourArcWrongFalsely : Prop := contourArcRow.holds Try.pinned (OpenSpec.ofChange contourArcWrong)

/-- 'cnclaw41.ContourEnds': WHATEVER THE INPUT: true; the input reads as it did. -/
def contourEndsSpec : ChangeSpec := { name := "contourEnds", fn := fun _ => fun
  | [d1, d2] => { results := [.lit (.bool true)], args := [d1, d2] }
  | _ => none }
def contourEndsRow : OpenClaim := { program := "ytdllaekpkcanbaa", sum := "7f329afd819a906f27bcac71f9c14954372f4e5fed8d8177e619c3c49ff99418", func := "cnc/cnclaw41.ContourEnds", spec := "contourEnds", apart := false }
def ContourEndsSaid : Prop := contourEndsRow.holds Try.pinned (OpenSpec.ofChange contourEndsSpec)

/-- ITS FALSE NEIGHBOUR: 'it returns false'. Refute it at one input. -/
def contourEndsWrong : ChangeSpec := { name := "contourEnds", fn := fun _ => fun
  | [d1, d2] => { results := [.lit (.bool false)], args := [d1, d2] }
  | _ => none }
def ContourEndsWrongFalsely : Prop := contourEndsRow.holds Try.pinned (OpenSpec.ofChange contourEndsWrong)

/-- 'cnclaw41.ContourGrows': WHATEVER THE INPUT: true; the input reads as it did. -/
def contourGrowsSpec : ChangeSpec := { name := "contourGrows", fn := fun _ => fun
  | [d1, d2, d3, d4, d5, d6] => { results := [.lit (.bool true)], args := [d1, d2, d3, d4, d5, d6] }
  | _ => none }
def contourGrowsRow : OpenClaim := { program := "ytdllaekpkcanbaa", sum := "7f329afd819a906f27bcac71f9c14954372f4e5fed8d8177e619c3c49ff99418", func := "cnc/cnclaw41.ContourGrows", spec := "contourGrows", apart := false }
def ContourGrowsSaid : Prop := contourGrowsRow.holds Try.pinned (OpenSpec.ofChange contourGrowsSpec)

/-- ITS FALSE NEIGHBOUR: 'it returns false'. Refute it at one input. -/
def contourGrowsWrong : ChangeSpec := { name := "contourGrows", fn := fun _ => fun
  | [d1, d2, d3, d4, d5, d6] => { results := [.lit (.bool false)], args := [d1, d2, d3, d4, d5, d6] }
  | _ => none }
def ContourGrowsWrongFalsely : Prop := contourGrowsRow.holds Try.pinned (OpenSpec.ofChange contourGrowsWrong)

/-- 'cnclaw29.TrackBegin': WHATEVER THE INPUT: true; the input reads as it did. -/
def trackBeginSpec : ChangeSpec := { name := "trackBegin", fn := fun _ => fun
  | [d1, d2, d3, d4, d5, d6, d7] => { results := [.lit (.bool true)], args := [d1, d2, d3, d4, d5, d6, d7] }
  | _ => none }
def trackBeginRow : OpenClaim := { program := "ytdllaekpkcanbaa", sum := "7f329afd819a906f27bcac71f9c14954372f4e5fed8d8177e619c3c49ff99418", func := "cnc/cnclaw29.TrackBegin", spec := "trackBegin", unfollowed := true, recurses := true, named := ["math/bits.divideError", "math/bits.overflowError"], apart := false }
def TrackBeginSaid : Prop := trackBeginRow.holds Try.pinned (OpenSpec.ofChange trackBeginSpec)

/-- ITS FALSE NEIGHBOUR: 'it returns false'. Refute it at one input. -/
def trackBeginWrong : ChangeSpec := { name := "trackBegin", fn := fun _ => fun
  | [d1, d2, d3, d4, d5, d6, d7] => { results := [.lit (.bool false)], args := [d1, d2, d3, d4, d5, d6, d7] }
  | _ => none }
def TrackBeginWrongFalsely : Prop := trackBeginRow.holds Try.pinned (OpenSpec.ofChange trackBeginWrong)

/-- 'cnclaw29.TrackReturn': WHATEVER THE INPUT: true; the input reads as it did. -/
def trackReturnSpec : ChangeSpec := { name := "trackReturn", fn := fun _ => fun
  | [d1, d2, d3, d4, d5] => { results := [.lit (.bool true)], args := [d1, d2, d3, d4, d5] }
  | _ => none }
def trackReturnRow : OpenClaim := { program := "ytdllaekpkcanbaa", sum := "7f329afd819a906f27bcac71f9c14954372f4e5fed8d8177e619c3c49ff99418", func := "cnc/cnclaw29.TrackReturn", spec := "trackReturn", unfollowed := true, recurses := true, named := ["math/bits.divideError", "math/bits.overflowError"], apart := false }
def TrackReturnSaid : Prop := trackReturnRow.holds Try.pinned (OpenSpec.ofChange trackReturnSpec)

/-- ITS FALSE NEIGHBOUR: 'it returns false'. Refute it at one input. -/
def trackReturnWrong : ChangeSpec := { name := "trackReturn", fn := fun _ => fun
  | [d1, d2, d3, d4, d5] => { results := [.lit (.bool false)], args := [d1, d2, d3, d4, d5] }
  | _ => none }
def TrackReturnWrongFalsely : Prop := trackReturnRow.holds Try.pinned (OpenSpec.ofChange trackReturnWrong)

/-- 'cnclaw41.ContourChords': WHATEVER THE INPUT: true; the input reads as it did. -/
def contourChordsSpec : ChangeSpec := { name := "contourChords", fn := fun _ => fun
  | [d1, d2, d3, d4] => { results := [.lit (.bool true)], args := [d1, d2, d3, d4] }
  | _ => none }
def contourChordsRow : OpenClaim := { program := "ytdllaekpkcanbaa", sum := "7f329afd819a906f27bcac71f9c14954372f4e5fed8d8177e619c3c49ff99418", func := "cnc/cnclaw41.ContourChords", spec := "contourChords", inPlace := ["math/bits.Sub64"], recurses := true, named := ["math/bits.divideError", "math/bits.overflowError"], apart := false }
def ContourChordsSaid : Prop := contourChordsRow.holds Try.pinned (OpenSpec.ofChange contourChordsSpec)

/-- ITS FALSE NEIGHBOUR: 'it returns false'. Refute it at one input. -/
def contourChordsWrong : ChangeSpec := { name := "contourChords", fn := fun _ => fun
  | [d1, d2, d3, d4] => { results := [.lit (.bool false)], args := [d1, d2, d3, d4] }
  | _ => none }
def ContourChordsWrongFalsely : Prop := contourChordsRow.holds Try.pinned (OpenSpec.ofChange contourChordsWrong)

/-- 'cnclaw25.PathVertices': WHATEVER THE INPUT: true; the input reads as it did. -/
def pathVerticesSpec : ChangeSpec := { name := "pathVertices", fn := fun _ => fun
  | [d1, d2] => { results := [.lit (.bool true)], args := [d1, d2] }
  | _ => none }
def pathVerticesRow : OpenClaim := { program := "ytdllaekpkcanbaa", sum := "7f329afd819a906f27bcac71f9c14954372f4e5fed8d8177e619c3c49ff99418", func := "cnc/cnclaw25.PathVertices", spec := "pathVertices", inPlace := ["math/bits.Sub64"], recurses := true, named := ["math/bits.divideError", "math/bits.overflowError"], apart := false }
def PathVerticesSaid : Prop := pathVerticesRow.holds Try.pinned (OpenSpec.ofChange pathVerticesSpec)

/-- ITS FALSE NEIGHBOUR: 'it returns false'. Refute it at one input. -/
def pathVerticesWrong : ChangeSpec := { name := "pathVertices", fn := fun _ => fun
  | [d1, d2] => { results := [.lit (.bool false)], args := [d1, d2] }
  | _ => none }
def PathVerticesWrongFalsely : Prop := pathVerticesRow.holds Try.pinned (OpenSpec.ofChange pathVerticesWrong)

/-- 'cnclaw25.PathMarks': WHATEVER THE INPUT: true; the input reads as it did. -/
def pathMarksSpec : ChangeSpec := { name := "pathMarks", fn := fun _ => fun
  | [d1, d2] => { results := [.lit (.bool true)], args := [d1, d2] }
  | _ => none }
def pathMarksRow : OpenClaim := { program := "ytdllaekpkcanbaa", sum := "7f329afd819a906f27bcac71f9c14954372f4e5fed8d8177e619c3c49ff99418", func := "cnc/cnclaw25.PathMarks", spec := "pathMarks", inPlace := ["math/bits.Sub64"], recurses := true, named := ["math/bits.divideError", "math/bits.overflowError"], apart := false }
def PathMarksSaid : Prop := pathMarksRow.holds Try.pinned (OpenSpec.ofChange pathMarksSpec)

/-- ITS FALSE NEIGHBOUR: 'it returns false'. Refute it at one input. -/
def pathMarksWrong : ChangeSpec := { name := "pathMarks", fn := fun _ => fun
  | [d1, d2] => { results := [.lit (.bool false)], args := [d1, d2] }
  | _ => none }
def PathMarksWrongFalsely : Prop := pathMarksRow.holds Try.pinned (OpenSpec.ofChange pathMarksWrong)

/-- 'cnclaw25.PathRate': WHATEVER THE INPUT: true; the input reads as it did. -/
def pathRateSpec : ChangeSpec := { name := "pathRate", fn := fun _ => fun
  | [d1, d2] => { results := [.lit (.bool true)], args := [d1, d2] }
  | _ => none }
def pathRateRow : OpenClaim := { program := "ytdllaekpkcanbaa", sum := "7f329afd819a906f27bcac71f9c14954372f4e5fed8d8177e619c3c49ff99418", func := "cnc/cnclaw25.PathRate", spec := "pathRate", inPlace := ["math/bits.Sub64"], recurses := true, named := ["math/bits.divideError", "math/bits.overflowError"], apart := false }
def PathRateSaid : Prop := pathRateRow.holds Try.pinned (OpenSpec.ofChange pathRateSpec)

/-- ITS FALSE NEIGHBOUR: 'it returns false'. Refute it at one input. -/
def pathRateWrong : ChangeSpec := { name := "pathRate", fn := fun _ => fun
  | [d1, d2] => { results := [.lit (.bool false)], args := [d1, d2] }
  | _ => none }
def PathRateWrongFalsely : Prop := pathRateRow.holds Try.pinned (OpenSpec.ofChange pathRateWrong)

/-- 'cnclaw25.PathSettled': WHATEVER THE INPUT: true; the input reads as it did. -/
def pathSettledSpec : ChangeSpec := { name := "pathSettled", fn := fun _ => fun
  | [d1, d2, d3] => { results := [.lit (.bool true)], args := [d1, d2, d3] }
  | _ => none }
def pathSettledRow : OpenClaim := { program := "ytdllaekpkcanbaa", sum := "7f329afd819a906f27bcac71f9c14954372f4e5fed8d8177e619c3c49ff99418", func := "cnc/cnclaw25.PathSettled", spec := "pathSettled", inPlace := ["math/bits.Sub64"], recurses := true, named := ["math/bits.divideError", "math/bits.overflowError"], apart := false }
def PathSettledSaid : Prop := pathSettledRow.holds Try.pinned (OpenSpec.ofChange pathSettledSpec)

/-- ITS FALSE NEIGHBOUR: 'it returns false'. Refute it at one input. -/
def pathSettledWrong : ChangeSpec := { name := "pathSettled", fn := fun _ => fun
  | [d1, d2, d3] => { results := [.lit (.bool false)], args := [d1, d2, d3] }
  | _ => none }
def PathSettledWrongFalsely : Prop := pathSettledRow.holds Try.pinned (OpenSpec.ofChange pathSettledWrong)

/-- 'cnclaw41.ContourPath': WHATEVER THE INPUT: true; the input reads as it did. -/
def contourPathSpec : ChangeSpec := { name := "contourPath", fn := fun _ => fun
  | [d1, d2, d3] => { results := [.lit (.bool true)], args := [d1, d2, d3] }
  | _ => none }
def contourPathRow : OpenClaim := { program := "ytdllaekpkcanbaa", sum := "7f329afd819a906f27bcac71f9c14954372f4e5fed8d8177e619c3c49ff99418", func := "cnc/cnclaw41.ContourPath", spec := "contourPath", inPlace := ["math/bits.Sub64"], recurses := true, named := ["math/bits.divideError", "math/bits.overflowError"], apart := false }
def ContourPathSaid : Prop := contourPathRow.holds Try.pinned (OpenSpec.ofChange contourPathSpec)

/-- ITS FALSE NEIGHBOUR: 'it returns false'. Refute it at one input. -/
def contourPathWrong : ChangeSpec := { name := "contourPath", fn := fun _ => fun
  | [d1, d2, d3] => { results := [.lit (.bool false)], args := [d1, d2, d3] }
  | _ => none }
def ContourPathWrongFalsely : Prop := contourPathRow.holds Try.pinned (OpenSpec.ofChange contourPathWrong)

/-- 'cnclaw29.TrackExtended': WHATEVER THE INPUT: true; the input reads as it did. -/
def trackExtendedSpec : ChangeSpec := { name := "trackExtended", fn := fun _ => fun
  | [d1, d2, d3, d4, d5] => { results := [.lit (.bool true)], args := [d1, d2, d3, d4, d5] }
  | _ => none }
def trackExtendedRow : OpenClaim := { program := "ytdllaekpkcanbaa", sum := "7f329afd819a906f27bcac71f9c14954372f4e5fed8d8177e619c3c49ff99418", func := "cnc/cnclaw29.TrackExtended", spec := "trackExtended", inPlace := ["math/bits.Sub64"], unfollowed := true, recurses := true, named := ["math/bits.divideError", "math/bits.overflowError"], apart := false }
def TrackExtendedSaid : Prop := trackExtendedRow.holds Try.pinned (OpenSpec.ofChange trackExtendedSpec)

/-- ITS FALSE NEIGHBOUR: 'it returns false'. Refute it at one input. -/
def trackExtendedWrong : ChangeSpec := { name := "trackExtended", fn := fun _ => fun
  | [d1, d2, d3, d4, d5] => { results := [.lit (.bool false)], args := [d1, d2, d3, d4, d5] }
  | _ => none }
def TrackExtendedWrongFalsely : Prop := trackExtendedRow.holds Try.pinned (OpenSpec.ofChange trackExtendedWrong)

/- THE SECOND FORM. 'bulk': how many values and letters a reading holds, each counted each time it is reached (what is shared counts as often as it is met; a slice's spare places count too). A statement '..UptoSaid' is the law's where the arguments, and the package variables that the reading takes, are together of bulk at most 1048576: NARROWER than '..Said'. Prove '..Said' where nothing that the law and all that it calls make is longer than what came in: it says more and counts as full. Else prove '..UptoSaid'. A law counts once. -/
mutual
def uptoBulk {H : Type} : DataW H → Nat
  | .lit (.string bytes) => bytes.length + 1
  | .lit _ => 1
  | .nil => 1
  | .ptr d => uptoBulk d + 1
  | .slice elems spare => uptoBulkAll elems + uptoBulkAll spare + 1
  | .agg parts => uptoBulkAll parts + 1
  | .iface _ d => uptoBulk d + 1
  | .map entries => uptoBulkEntries entries + 1
  | .held _ => 1
def uptoBulkAll {H : Type} : List (DataW H) → Nat
  | [] => 0
  | d :: r => uptoBulk d + uptoBulkAll r
def uptoBulkEntries {H : Type} : List (Lit × DataW H) → Nat
  | [] => 0
  | x :: r => uptoBulkEntry x + uptoBulkEntries r
def uptoBulkEntry {H : Type} : Lit × DataW H → Nat
  | (.string bytes, d) => bytes.length + uptoBulk d + 1
  | (_, d) => uptoBulk d + 1
 end
def uptoSmall : (H : Type) → List (DataW H) → Bool := fun _ ds => decide (uptoBulkAll ds ≤ 1048576)
def OpenSpec.upto (s : _root_.Go.ChangeSpec) : _root_.Go.OpenSpec := { _root_.Go.OpenSpec.ofChange s with cond := some uptoSmall }

/-- 'cnclaw41.ContourLine', WHERE WHAT IT READS IS OF BULK AT MOST 1048576: true; the input reads as it did. -/
def contourLineUptoRow : OpenClaim := { program := "ytdllaekpkcanbaa", sum := "7f329afd819a906f27bcac71f9c14954372f4e5fed8d8177e619c3c49ff99418", func := "cnc/cnclaw41.ContourLine", spec := "contourLine", apart := false, narrowed := true }
def ContourLineUptoSaid : Prop := contourLineUptoRow.holds Try.pinned (OpenSpec.upto contourLineSpec)

/-- 'cnclaw41.ContourArc', WHERE WHAT IT READS IS OF BULK AT MOST 1048576: true; the input reads as it did. -/
def contourArcUptoRow : OpenClaim := { program := "ytdllaekpkcanbaa", sum := "7f329afd819a906f27bcac71f9c14954372f4e5fed8d8177e619c3c49ff99418", func := "cnc/cnclaw41.ContourArc", spec := "contourArc", recurses := true, apart := false, narrowed := true }
def ContourArcUptoSaid : Prop := contourArcUptoRow.holds Try.pinned (OpenSpec.upto contourArcSpec)

/-- 'cnclaw41.ContourEnds', WHERE WHAT IT READS IS OF BULK AT MOST 1048576: true; the input reads as it did. -/
def contourEndsUptoRow : OpenClaim := { program := "ytdllaekpkcanbaa", sum := "7f329afd819a906f27bcac71f9c14954372f4e5fed8d8177e619c3c49ff99418", func := "cnc/cnclaw41.ContourEnds", spec := "contourEnds", apart := false, narrowed := true }
def ContourEndsUptoSaid : Prop := contourEndsUptoRow.holds Try.pinned (OpenSpec.upto contourEndsSpec)

/-- 'cnclaw41.ContourGrows', WHERE WHAT IT READS IS OF BULK AT MOST 1048576: true; the input reads as it did. -/
def contourGrowsUptoRow : OpenClaim := { program := "ytdllaekpkcanbaa", sum := "7f329afd819a906f27bcac71f9c14954372f4e5fed8d8177e619c3c49ff99418", func := "cnc/cnclaw41.ContourGrows", spec := "contourGrows", apart := false, narrowed := true }
def ContourGrowsUptoSaid : Prop := contourGrowsUptoRow.holds Try.pinned (OpenSpec.upto contourGrowsSpec)

/-- 'cnclaw29.TrackBegin', WHERE WHAT IT READS IS OF BULK AT MOST 1048576: true; the input reads as it did. -/
def trackBeginUptoRow : OpenClaim := { program := "ytdllaekpkcanbaa", sum := "7f329afd819a906f27bcac71f9c14954372f4e5fed8d8177e619c3c49ff99418", func := "cnc/cnclaw29.TrackBegin", spec := "trackBegin", unfollowed := true, recurses := true, named := ["math/bits.divideError", "math/bits.overflowError"], apart := false, narrowed := true }
def TrackBeginUptoSaid : Prop := trackBeginUptoRow.holds Try.pinned (OpenSpec.upto trackBeginSpec)

/-- 'cnclaw29.TrackReturn', WHERE WHAT IT READS IS OF BULK AT MOST 1048576: true; the input reads as it did. -/
def trackReturnUptoRow : OpenClaim := { program := "ytdllaekpkcanbaa", sum := "7f329afd819a906f27bcac71f9c14954372f4e5fed8d8177e619c3c49ff99418", func := "cnc/cnclaw29.TrackReturn", spec := "trackReturn", unfollowed := true, recurses := true, named := ["math/bits.divideError", "math/bits.overflowError"], apart := false, narrowed := true }
def TrackReturnUptoSaid : Prop := trackReturnUptoRow.holds Try.pinned (OpenSpec.upto trackReturnSpec)

/-- 'cnclaw41.ContourChords', WHERE WHAT IT READS IS OF BULK AT MOST 1048576: true; the input reads as it did. -/
def contourChordsUptoRow : OpenClaim := { program := "ytdllaekpkcanbaa", sum := "7f329afd819a906f27bcac71f9c14954372f4e5fed8d8177e619c3c49ff99418", func := "cnc/cnclaw41.ContourChords", spec := "contourChords", inPlace := ["math/bits.Sub64"], recurses := true, named := ["math/bits.divideError", "math/bits.overflowError"], apart := false, narrowed := true }
def ContourChordsUptoSaid : Prop := contourChordsUptoRow.holds Try.pinned (OpenSpec.upto contourChordsSpec)

/-- 'cnclaw25.PathVertices', WHERE WHAT IT READS IS OF BULK AT MOST 1048576: true; the input reads as it did. -/
def pathVerticesUptoRow : OpenClaim := { program := "ytdllaekpkcanbaa", sum := "7f329afd819a906f27bcac71f9c14954372f4e5fed8d8177e619c3c49ff99418", func := "cnc/cnclaw25.PathVertices", spec := "pathVertices", inPlace := ["math/bits.Sub64"], recurses := true, named := ["math/bits.divideError", "math/bits.overflowError"], apart := false, narrowed := true }
def PathVerticesUptoSaid : Prop := pathVerticesUptoRow.holds Try.pinned (OpenSpec.upto pathVerticesSpec)

/-- 'cnclaw25.PathMarks', WHERE WHAT IT READS IS OF BULK AT MOST 1048576: true; the input reads as it did. -/
def pathMarksUptoRow : OpenClaim := { program := "ytdllaekpkcanbaa", sum := "7f329afd819a906f27bcac71f9c14954372f4e5fed8d8177e619c3c49ff99418", func := "cnc/cnclaw25.PathMarks", spec := "pathMarks", inPlace := ["math/bits.Sub64"], recurses := true, named := ["math/bits.divideError", "math/bits.overflowError"], apart := false, narrowed := true }
def PathMarksUptoSaid : Prop := pathMarksUptoRow.holds Try.pinned (OpenSpec.upto pathMarksSpec)

/-- 'cnclaw25.PathRate', WHERE WHAT IT READS IS OF BULK AT MOST 1048576: true; the input reads as it did. -/
def pathRateUptoRow : OpenClaim := { program := "ytdllaekpkcanbaa", sum := "7f329afd819a906f27bcac71f9c14954372f4e5fed8d8177e619c3c49ff99418", func := "cnc/cnclaw25.PathRate", spec := "pathRate", inPlace := ["math/bits.Sub64"], recurses := true, named := ["math/bits.divideError", "math/bits.overflowError"], apart := false, narrowed := true }
def PathRateUptoSaid : Prop := pathRateUptoRow.holds Try.pinned (OpenSpec.upto pathRateSpec)

/-- 'cnclaw25.PathSettled', WHERE WHAT IT READS IS OF BULK AT MOST 1048576: true; the input reads as it did. -/
def pathSettledUptoRow : OpenClaim := { program := "ytdllaekpkcanbaa", sum := "7f329afd819a906f27bcac71f9c14954372f4e5fed8d8177e619c3c49ff99418", func := "cnc/cnclaw25.PathSettled", spec := "pathSettled", inPlace := ["math/bits.Sub64"], recurses := true, named := ["math/bits.divideError", "math/bits.overflowError"], apart := false, narrowed := true }
def PathSettledUptoSaid : Prop := pathSettledUptoRow.holds Try.pinned (OpenSpec.upto pathSettledSpec)

/-- 'cnclaw41.ContourPath', WHERE WHAT IT READS IS OF BULK AT MOST 1048576: true; the input reads as it did. -/
def contourPathUptoRow : OpenClaim := { program := "ytdllaekpkcanbaa", sum := "7f329afd819a906f27bcac71f9c14954372f4e5fed8d8177e619c3c49ff99418", func := "cnc/cnclaw41.ContourPath", spec := "contourPath", inPlace := ["math/bits.Sub64"], recurses := true, named := ["math/bits.divideError", "math/bits.overflowError"], apart := false, narrowed := true }
def ContourPathUptoSaid : Prop := contourPathUptoRow.holds Try.pinned (OpenSpec.upto contourPathSpec)

/-- 'cnclaw29.TrackExtended', WHERE WHAT IT READS IS OF BULK AT MOST 1048576: true; the input reads as it did. -/
def trackExtendedUptoRow : OpenClaim := { program := "ytdllaekpkcanbaa", sum := "7f329afd819a906f27bcac71f9c14954372f4e5fed8d8177e619c3c49ff99418", func := "cnc/cnclaw29.TrackExtended", spec := "trackExtended", inPlace := ["math/bits.Sub64"], unfollowed := true, recurses := true, named := ["math/bits.divideError", "math/bits.overflowError"], apart := false, narrowed := true }
def TrackExtendedUptoSaid : Prop := trackExtendedUptoRow.holds Try.pinned (OpenSpec.upto trackExtendedSpec)

end Rows
end Go.Proofs.Ytdllaekpkcanbaa
