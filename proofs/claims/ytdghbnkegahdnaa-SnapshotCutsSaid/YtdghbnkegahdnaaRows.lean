/-
  No cell of these rows narrows 'for every input' (looked for: loops, veiled, ifaces, maps, wideKeys, modest, calm, conditions, laid).
  DERIVED. THE GIVEN ROWS OF THIS SEAT. 4 by the template 'for every input the law returns true; each argument reads behind the call as it read before'; 0 by the template 'total and deterministic' (their statements: YtdghbnkegahdnaaTotals.lean).
  GIVEN WITH THE SEED: the statements are not yours to turn. If you find one false, say at which input.
  Laid BY PROGRAM, IN A SANDBOX (cutbox-rows.mjs): the forced cells as the released guide's own fill.sh prints them over the translation 9b674af5151ee24a… (all of the seat's roots in one cut). By AI agents, Wed Nov 11 2026. No macro, syntax, notation, axiom, sorry.
-/
import Derived.Test.YtdghbnkegahdnaaChecked
import GoSem.Claim
import GoSem.ClaimJoined
import GoSem.ClaimMapViews
import Derived.JoinedTies
import Derived.KernelRfl
namespace Go.Proofs.Ytdghbnkegahdnaa
/- THE CELL 'sum', in the pinned program and in every row, IS THE sha256 OF THE DUMP (.gsa) THAT YtdghbnkegahdnaaProg.lean LOADS. Nothing in Lean hashes anything: it is a label: what it is worth is what the hold of that sum in a sandbox is worth. -/
noncomputable def Try.pinned : Pinned := { name := "ytdghbnkegahdnaa", sum := "9b674af5151ee24a98752669b71e4f3c39a665eca0241684e577cf1f6be326e6", checked := Try.checked }
namespace Rows
def none {H : Type} : Left H := { results := [], args := [] }

/-- 'ferrymanlaw08.SegmentCuts': WHATEVER THE INPUT: true; the input reads as it did. -/
def segmentCutsSpec : ChangeSpec := { name := "segmentCuts", fn := fun _ => fun
  | [d1, d2, d3] => { results := [.lit (.bool true)], args := [d1, d2, d3] }
  | _ => none }
def segmentCutsRow : OpenClaim := { program := "ytdghbnkegahdnaa", sum := "9b674af5151ee24a98752669b71e4f3c39a665eca0241684e577cf1f6be326e6", func := "ferryman/ferrymanlaw08.SegmentCuts", spec := "segmentCuts", unfollowed := true, recurses := true, apart := false }
def SegmentCutsSaid : Prop := segmentCutsRow.holds Try.pinned (OpenSpec.ofChange segmentCutsSpec)

/-- ITS FALSE NEIGHBOUR: 'it returns false'. Refute it at one input. -/
def segmentCutsWrong : ChangeSpec := { name := "segmentCuts", fn := fun _ => fun
  | [d1, d2, d3] => { results := [.lit (.bool false)], args := [d1, d2, d3] }
  | _ => none }
def SegmentCutsWrongFalsely : Prop := segmentCutsRow.holds Try.pinned (OpenSpec.ofChange segmentCutsWrong)

/-- 'ferrymanlaw09.SnapshotOnce': WHATEVER THE INPUT: true; the input reads as it did. -/
def snapshotOnceSpec : ChangeSpec := { name := "snapshotOnce", fn := fun _ => fun
  | [d] => { results := [.lit (.bool true)], args := [d] }
  | _ => none }
def snapshotOnceRow : OpenClaim := { program := "ytdghbnkegahdnaa", sum := "9b674af5151ee24a98752669b71e4f3c39a665eca0241684e577cf1f6be326e6", func := "ferryman/ferrymanlaw09.SnapshotOnce", spec := "snapshotOnce", inPlace := ["slices.overlaps[int]", "slices.overlaps[ferryman/api.Entry]"], unfollowed := true, recurses := true, apart := false }
def SnapshotOnceSaid : Prop := snapshotOnceRow.holds Try.pinned (OpenSpec.ofChange snapshotOnceSpec)

/-- ITS FALSE NEIGHBOUR: 'it returns false'. Refute it at one input. -/
def snapshotOnceWrong : ChangeSpec := { name := "snapshotOnce", fn := fun _ => fun
  | [d] => { results := [.lit (.bool false)], args := [d] }
  | _ => none }
def SnapshotOnceWrongFalsely : Prop := snapshotOnceRow.holds Try.pinned (OpenSpec.ofChange snapshotOnceWrong)

/-- 'ferrymanlaw09.SnapshotCuts': WHATEVER THE INPUT: true; the input reads as it did. -/
def snapshotCutsSpec : ChangeSpec := { name := "snapshotCuts", fn := fun _ => fun
  | [d1, d2, d3] => { results := [.lit (.bool true)], args := [d1, d2, d3] }
  | _ => none }
def snapshotCutsRow : OpenClaim := { program := "ytdghbnkegahdnaa", sum := "9b674af5151ee24a98752669b71e4f3c39a665eca0241684e577cf1f6be326e6", func := "ferryman/ferrymanlaw09.SnapshotCuts", spec := "snapshotCuts", inPlace := ["slices.overlaps[int]", "slices.overlaps[ferryman/api.Entry]"], unfollowed := true, recurses := true, apart := false }
def SnapshotCutsSaid : Prop := snapshotCutsRow.holds Try.pinned (OpenSpec.ofChange snapshotCutsSpec)

/-- ITS FALSE NEIGHBOUR: 'it returns false'. Refute it at one input. -/
def snapshotCutsWrong : ChangeSpec := { name := "snapshotCuts", fn := fun _ => fun
  | [d1, d2, d3] => { results := [.lit (.bool false)], args := [d1, d2, d3] }
  | _ => none }
def SnapshotCutsWrongFalsely : Prop := snapshotCutsRow.holds Try.pinned (OpenSpec.ofChange snapshotCutsWrong)

/-- 'ferrymanlaw09.SnapshotBack': WHATEVER THE INPUT: true; the input reads as it did. -/
def snapshotBackSpec : ChangeSpec := { name := "snapshotBack", fn := fun _ => fun
  | [d] => { results := [.lit (.bool true)], args := [d] }
  | _ => none }
def snapshotBackRow : OpenClaim := { program := "ytdghbnkegahdnaa", sum := "9b674af5151ee24a98752669b71e4f3c39a665eca0241684e577cf1f6be326e6", func := "ferryman/ferrymanlaw09.SnapshotBack", spec := "snapshotBack", inPlace := ["slices.overlaps[int]", "slices.overlaps[ferryman/api.Entry]"], unfollowed := true, recurses := true, apart := false }
def SnapshotBackSaid : Prop := snapshotBackRow.holds Try.pinned (OpenSpec.ofChange snapshotBackSpec)

/-- ITS FALSE NEIGHBOUR: 'it returns false'. Refute it at one input. -/
def snapshotBackWrong : ChangeSpec := { name := "snapshotBack", fn := fun _ => fun
  | [d] => { results := [.lit (.bool false)], args := [d] }
  | _ => none }
def SnapshotBackWrongFalsely : Prop := snapshotBackRow.holds Try.pinned (OpenSpec.ofChange snapshotBackWrong)

/- THE SECOND FORM. 'bulk': how many values and letters a reading holds, each counted each time it is reached (what is shared counts as often as it is met; a slice's spare places count too). A statement '..UptoSaid' is the law's where the arguments, and the package variables that the reading takes, are together of bulk at most 1048576: NARROWER than '..Said'. Prove '..Said' where nothing that the law and all that it calls make is longer than what came in: it says more and counts as full. Else prove '..UptoSaid'. A law counts once. -/
mutual
def uptoBulk {H : Type} : DataW H → Nat
  | .lit (.string bytes) => bytes.length + 1
  | .lit _ => 1
  | .nil => 1
  | .ptr d => uptoBulk d + 1
  | .slice elems spare => uptoBulkAll elems + uptoBulkAll spare + 1
  | .agg parts => uptoBulkAll parts + 1
  | .iface _ d => uptoBulk d + 1
  | .map entries => uptoBulkEntries entries + 1
  | .held _ => 1
def uptoBulkAll {H : Type} : List (DataW H) → Nat
  | [] => 0
  | d :: r => uptoBulk d + uptoBulkAll r
def uptoBulkEntries {H : Type} : List (Lit × DataW H) → Nat
  | [] => 0
  | x :: r => uptoBulkEntry x + uptoBulkEntries r
def uptoBulkEntry {H : Type} : Lit × DataW H → Nat
  | (.string bytes, d) => bytes.length + uptoBulk d + 1
  | (_, d) => uptoBulk d + 1
 end
def uptoSmall : (H : Type) → List (DataW H) → Bool := fun _ ds => decide (uptoBulkAll ds ≤ 1048576)
def OpenSpec.upto (s : _root_.Go.ChangeSpec) : _root_.Go.OpenSpec := { _root_.Go.OpenSpec.ofChange s with cond := some uptoSmall }

/-- 'ferrymanlaw08.SegmentCuts', WHERE WHAT IT READS IS OF BULK AT MOST 1048576: true; the input reads as it did. -/
def segmentCutsUptoRow : OpenClaim := { program := "ytdghbnkegahdnaa", sum := "9b674af5151ee24a98752669b71e4f3c39a665eca0241684e577cf1f6be326e6", func := "ferryman/ferrymanlaw08.SegmentCuts", spec := "segmentCuts", unfollowed := true, recurses := true, apart := false, narrowed := true }
def SegmentCutsUptoSaid : Prop := segmentCutsUptoRow.holds Try.pinned (OpenSpec.upto segmentCutsSpec)

/-- 'ferrymanlaw09.SnapshotOnce', WHERE WHAT IT READS IS OF BULK AT MOST 1048576: true; the input reads as it did. -/
def snapshotOnceUptoRow : OpenClaim := { program := "ytdghbnkegahdnaa", sum := "9b674af5151ee24a98752669b71e4f3c39a665eca0241684e577cf1f6be326e6", func := "ferryman/ferrymanlaw09.SnapshotOnce", spec := "snapshotOnce", inPlace := ["slices.overlaps[int]", "slices.overlaps[ferryman/api.Entry]"], unfollowed := true, recurses := true, apart := false, narrowed := true }
def SnapshotOnceUptoSaid : Prop := snapshotOnceUptoRow.holds Try.pinned (OpenSpec.upto snapshotOnceSpec)

/-- 'ferrymanlaw09.SnapshotCuts', WHERE WHAT IT READS IS OF BULK AT MOST 1048576: true; the input reads as it did. -/
def snapshotCutsUptoRow : OpenClaim := { program := "ytdghbnkegahdnaa", sum := "9b674af5151ee24a98752669b71e4f3c39a665eca0241684e577cf1f6be326e6", func := "ferryman/ferrymanlaw09.SnapshotCuts", spec := "snapshotCuts", inPlace := ["slices.overlaps[int]", "slices.overlaps[ferryman/api.Entry]"], unfollowed := true, recurses := true, apart := false, narrowed := true }
def SnapshotCutsUptoSaid : Prop := snapshotCutsUptoRow.holds Try.pinned (OpenSpec.upto snapshotCutsSpec)

/-- 'ferrymanlaw09.SnapshotBack', WHERE WHAT IT READS IS OF BULK AT MOST 1048576: true; the input reads as it did. -/
def snapshotBackUptoRow : OpenClaim := { program := "ytdghbnkegahdnaa", sum := "9b674af5151ee24a98752669b71e4f3c39a665eca0241684e577cf1f6be326e6", func := "ferryman/ferrymanlaw09.SnapshotBack", spec := "snapshotBack", inPlace := ["slices.overlaps[int]", "slices.overlaps[ferryman/api.Entry]"], unfollowed := true, recurses := true, apart := false, narrowed := true }
def SnapshotBackUptoSaid : Prop := snapshotBackUptoRow.holds Try.pinned (OpenSpec.upto snapshotBackSpec)

end Rows
end Go.Proofs.Ytdghbnkegahdnaa
