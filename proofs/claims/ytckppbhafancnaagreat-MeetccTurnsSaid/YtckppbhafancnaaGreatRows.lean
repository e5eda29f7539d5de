/-
  No cell of these rows narrows 'for every input' (looked for: loops, veiled, ifaces, maps, wideKeys, modest, calm, conditions, laid).
  DERIVED. THE GIVEN ROWS OF THIS SEAT. 5 by the template 'for every input the law returns true; each argument reads behind the call as it read before'; 0 by the template 'total and deterministic' (their statements: YtckppbhafancnaaGreatTotals.lean).
  GIVEN WITH THE SEED: the statements are not yours to turn. If you find one false, say at which input.
  Laid BY PROGRAM, IN A SANDBOX (cutbox-rows.mjs): the forced cells as the released guide's own fill.sh prints them over the translation 21b88d88bb47e846… (all of the seat's roots in one cut). By AI agents, Wed Nov 11 2026. No macro, syntax, notation, axiom, sorry.
-/
import Derived.Test.YtckppbhafancnaaGreatChecked
import GoSem.Claim
import GoSem.ClaimJoined
import GoSem.ClaimMapViews
import Derived.JoinedTies
import Derived.KernelRfl
namespace Go.Proofs.YtckppbhafancnaaGreat
/- THE CELL 'sum', in the pinned program and in every row, IS THE sha256 OF THE DUMP (.gsa) THAT YtckppbhafancnaaGreatProg.lean LOADS. Nothing in Lean hashes anything: it is a label: what it is worth is what the hold of that sum in a sandbox is worth. -/
noncomputable def Tryz.pinned : Pinned := { name := "ytckppbhafancnaagreat", sum := "21b88d88bb47e84646a6bb1632ff15145a59358959617de2255665c3303d6161", checked := Tryz.checked }
namespace Rows
def none {H : Type} : Left H := { results := [], args := [] }

/-- 'brepkernellaw17.MeetccCells': WHATEVER THE INPUT: true; the input reads as it did. -/
def meetccCellsSpec : ChangeSpec := { name := "meetccCells", fn := fun _ => fun
  | [d1, d2, d3, d4, d5, d6] => { results := [.lit (.bool true)], args := [d1, d2, d3, d4, d5, d6] }
  | _ => none }
def meetccCellsRow : OpenClaim := { program := "ytckppbhafancnaagreat", sum := "21b88d88bb47e84646a6bb1632ff15145a59358959617de2255665c3303d6161", func := "brepkernel/brepkernellaw17.MeetccCells", spec := "meetccCells", inPlace := ["math/bits.Add64", "slices.overlaps[brepkernel/api.Rat]"], unfollowed := true, recurses := true, apart := false }
def MeetccCellsSaid : Prop := meetccCellsRow.holds Tryz.pinned (OpenSpec.ofChange meetccCellsSpec)

/-- ITS FALSE NEIGHBOUR: 'it returns false'. Refute it at one input. -/
def meetccCellsWrong : ChangeSpec := { name := "meetccCells", fn := fun _ => fun
  | [d1, d2, d3, d4, d5, d6] => { results := [.lit (.bool false)], args := [d1, d2, d3, d4, d5, d6] }
  | _ => none }
def MeetccCellsWrongFalsely : Prop := meetccCellsRow.holds Tryz.pinned (OpenSpec.ofChange meetccCellsWrong)

/-- 'brepkernellaw17.MeetccCovers': WHATEVER THE INPUT: true; the input reads as it did. -/
def meetccCoversSpec : ChangeSpec := { name := "meetccCovers", fn := fun _ => fun
  | [d1, d2, d3, d4, d5, d6] => { results := [.lit (.bool true)], args := [d1, d2, d3, d4, d5, d6] }
  | _ => none }
def meetccCoversRow : OpenClaim := { program := "ytckppbhafancnaagreat", sum := "21b88d88bb47e84646a6bb1632ff15145a59358959617de2255665c3303d6161", func := "brepkernel/brepkernellaw17.MeetccCovers", spec := "meetccCovers", inPlace := ["math/bits.Add64", "slices.overlaps[brepkernel/api.Rat]"], unfollowed := true, recurses := true, apart := false }
def MeetccCoversSaid : Prop := meetccCoversRow.holds Tryz.pinned (OpenSpec.ofChange meetccCoversSpec)

/-- ITS FALSE NEIGHBOUR: 'it returns false'. Refute it at one input. -/
def meetccCoversWrong : ChangeSpec := { name := "meetccCovers", fn := fun _ => fun
  | [d1, d2, d3, d4, d5, d6] => { results := [.lit (.bool false)], args := [d1, d2, d3, d4, d5, d6] }
  | _ => none }
def MeetccCoversWrongFalsely : Prop := meetccCoversRow.holds Tryz.pinned (OpenSpec.ofChange meetccCoversWrong)

/-- 'brepkernellaw17.MeetccOnce': WHATEVER THE INPUT: true; the input reads as it did. -/
def meetccOnceSpec : ChangeSpec := { name := "meetccOnce", fn := fun _ => fun
  | [d1, d2, d3, d4, d5, d6] => { results := [.lit (.bool true)], args := [d1, d2, d3, d4, d5, d6] }
  | _ => none }
def meetccOnceRow : OpenClaim := { program := "ytckppbhafancnaagreat", sum := "21b88d88bb47e84646a6bb1632ff15145a59358959617de2255665c3303d6161", func := "brepkernel/brepkernellaw17.MeetccOnce", spec := "meetccOnce", inPlace := ["math/bits.Add64", "slices.overlaps[brepkernel/api.Rat]"], unfollowed := true, recurses := true, apart := false }
def MeetccOnceSaid : Prop := meetccOnceRow.holds Tryz.pinned (OpenSpec.ofChange meetccOnceSpec)

/-- ITS FALSE NEIGHBOUR: 'it returns false'. Refute it at one input. -/
def meetccOnceWrong : ChangeSpec := { name := "meetccOnce", fn := fun _ => fun
  | [d1, d2, d3, d4, d5, d6] => { results := [.lit (.bool false)], args := [d1, d2, d3, d4, d5, d6] }
  | _ => none }
def MeetccOnceWrongFalsely : Prop := meetccOnceRow.holds Tryz.pinned (OpenSpec.ofChange meetccOnceWrong)

/-- 'brepkernellaw17.MeetccLines': WHATEVER THE INPUT: true; the input reads as it did. -/
def meetccLinesSpec : ChangeSpec := { name := "meetccLines", fn := fun _ => fun
  | [d1, d2] => { results := [.lit (.bool true)], args := [d1, d2] }
  | _ => none }
def meetccLinesRow : OpenClaim := { program := "ytckppbhafancnaagreat", sum := "21b88d88bb47e84646a6bb1632ff15145a59358959617de2255665c3303d6161", func := "brepkernel/brepkernellaw17.MeetccLines", spec := "meetccLines", inPlace := ["math/bits.Add64", "slices.overlaps[brepkernel/api.Rat]"], unfollowed := true, recurses := true, apart := false }
def MeetccLinesSaid : Prop := meetccLinesRow.holds Tryz.pinned (OpenSpec.ofChange meetccLinesSpec)

/-- ITS FALSE NEIGHBOUR: 'it returns false'. Refute it at one input. -/
def meetccLinesWrong : ChangeSpec := { name := "meetccLines", fn := fun _ => fun
  | [d1, d2] => { results := [.lit (.bool false)], args := [d1, d2] }
  | _ => none }
def MeetccLinesWrongFalsely : Prop := meetccLinesRow.holds Tryz.pinned (OpenSpec.ofChange meetccLinesWrong)

/-- 'brepkernellaw17.MeetccTurns': WHATEVER THE INPUT: true; the input reads as it did. -/
def meetccTurnsSpec : ChangeSpec := { name := "meetccTurns", fn := fun _ => fun
  | [d1, d2, d3, d4, d5] => { results := [.lit (.bool true)], args := [d1, d2, d3, d4, d5] }
  | _ => none }
def meetccTurnsRow : OpenClaim := { program := "ytckppbhafancnaagreat", sum := "21b88d88bb47e84646a6bb1632ff15145a59358959617de2255665c3303d6161", func := "brepkernel/brepkernellaw17.MeetccTurns", spec := "meetccTurns", inPlace := ["math/bits.Add64", "slices.overlaps[brepkernel/api.Rat]"], unfollowed := true, recurses := true, apart := false }
def MeetccTurnsSaid : Prop := meetccTurnsRow.holds Tryz.pinned (OpenSpec.ofChange meetccTurnsSpec)

/-- ITS FALSE NEIGHBOUR: 'it returns false'. Refute it at one input. -/
def meetccTurnsWrong : ChangeSpec := { name := "meetccTurns", fn := fun _ => fun
  | [d1, d2, d3, d4, d5] => { results := [.lit (.bool false)], args := [d1, d2, d3, d4, d5] }
  | _ => none }
def MeetccTurnsWrongFalsely : Prop := meetccTurnsRow.holds Tryz.pinned (OpenSpec.ofChange meetccTurnsWrong)

/- THE SECOND FORM. 'bulk': how many values and letters a reading holds, each counted each time it is reached (what is shared counts as often as it is met; a slice's spare places count too). A statement '..UptoSaid' is the law's where the arguments, and the package variables that the reading takes, are together of bulk at most 1048576: NARROWER than '..Said'. Prove '..Said' where nothing that the law and all that it calls make is longer than what came in: it says more and counts as full. Else prove '..UptoSaid'. A law counts once. -/
mutual
def uptoBulk {H : Type} : DataW H → Nat
  | .lit (.string bytes) => bytes.length + 1
  | .lit _ => 1
  | .nil => 1
  | .ptr d => uptoBulk d + 1
  | .slice elems spare => uptoBulkAll elems + uptoBulkAll spare + 1
  | .agg parts => uptoBulkAll parts + 1
  | .iface _ d => uptoBulk d + 1
  | .map entries => uptoBulkEntries entries + 1
  | .held _ => 1
def uptoBulkAll {H : Type} : List (DataW H) → Nat
  | [] => 0
  | d :: r => uptoBulk d + uptoBulkAll r
def uptoBulkEntries {H : Type} : List (Lit × DataW H) → Nat
  | [] => 0
  | x :: r => uptoBulkEntry x + uptoBulkEntries r
def uptoBulkEntry {H : Type} : Lit × DataW H → Nat
  | (.string bytes, d) => bytes.length + uptoBulk d + 1
  | (_, d) => uptoBulk d + 1
 end
def uptoSmall : (H : Type) → List (DataW H) → Bool := fun _ ds => decide (uptoBulkAll ds ≤ 1048576)
def OpenSpec.upto (s : _root_.Go.ChangeSpec) : _root_.Go.OpenSpec := { _root_.Go.OpenSpec.ofChange s with cond := some uptoSmall }

/-- 'brepkernellaw17.MeetccCells', WHERE WHAT IT READS IS OF BULK AT MOST 1048576: true; the input reads as it did. -/
def meetccCellsUptoRow : OpenClaim := { program := "ytckppbhafancnaagreat", sum := "21b88d88bb47e84646a6bb1632ff15145a59358959617de2255665c3303d6161", func := "brepkernel/brepkernellaw17.MeetccCells", spec := "meetccCells", inPlace := ["math/bits.Add64", "slices.overlaps[brepkernel/api.Rat]"], unfollowed := true, recurses := true, apart := false, narrowed := true }
def MeetccCellsUptoSaid : Prop := meetccCellsUptoRow.holds Tryz.pinned (OpenSpec.upto meetccCellsSpec)

/-- 'brepkernellaw17.MeetccCovers', WHERE WHAT IT READS IS OF BULK AT MOST 1048576: true; the input reads as it did. -/
def meetccCoversUptoRow : OpenClaim := { program := "ytckppbhafancnaagreat", sum := "21b88d88bb47e84646a6bb1632ff15145a59358959617de2255665c3303d6161", func := "brepkernel/brepkernellaw17.MeetccCovers", spec := "meetccCovers", inPlace := ["math/bits.Add64", "slices.overlaps[brepkernel/api.Rat]"], unfollowed := true, recurses := true, apart := false, narrowed := true }
def MeetccCoversUptoSaid : Prop := meetccCoversUptoRow.holds Tryz.pinned (OpenSpec.upto meetccCoversSpec)

/-- 'brepkernellaw17.MeetccOnce', WHERE WHAT IT READS IS OF BULK AT MOST 1048576: true; the input reads as it did. -/
def meetccOnceUptoRow : OpenClaim := { program := "ytckppbhafancnaagreat", sum := "21b88d88bb47e84646a6bb1632ff15145a59358959617de2255665c3303d6161", func := "brepkernel/brepkernellaw17.MeetccOnce", spec := "meetccOnce", inPlace := ["math/bits.Add64", "slices.overlaps[brepkernel/api.Rat]"], unfollowed := true, recurses := true, apart := false, narrowed := true }
def MeetccOnceUptoSaid : Prop := meetccOnceUptoRow.holds Tryz.pinned (OpenSpec.upto meetccOnceSpec)

/-- 'brepkernellaw17.MeetccLines', WHERE WHAT IT READS IS OF BULK AT MOST 1048576: true; the input reads as it did. -/
def meetccLinesUptoRow : OpenClaim := { program := "ytckppbhafancnaagreat", sum := "21b88d88bb47e84646a6bb1632ff15145a59358959617de2255665c3303d6161", func := "brepkernel/brepkernellaw17.MeetccLines", spec := "meetccLines", inPlace := ["math/bits.Add64", "slices.overlaps[brepkernel/api.Rat]"], unfollowed := true, recurses := true, apart := false, narrowed := true }
def MeetccLinesUptoSaid : Prop := meetccLinesUptoRow.holds Tryz.pinned (OpenSpec.upto meetccLinesSpec)

/-- 'brepkernellaw17.MeetccTurns', WHERE WHAT IT READS IS OF BULK AT MOST 1048576: true; the input reads as it did. -/
def meetccTurnsUptoRow : OpenClaim := { program := "ytckppbhafancnaagreat", sum := "21b88d88bb47e84646a6bb1632ff15145a59358959617de2255665c3303d6161", func := "brepkernel/brepkernellaw17.MeetccTurns", spec := "meetccTurns", inPlace := ["math/bits.Add64", "slices.overlaps[brepkernel/api.Rat]"], unfollowed := true, recurses := true, apart := false, narrowed := true }
def MeetccTurnsUptoSaid : Prop := meetccTurnsUptoRow.holds Tryz.pinned (OpenSpec.upto meetccTurnsSpec)

end Rows
end Go.Proofs.YtckppbhafancnaaGreat
